/- The row's listed variables: what they give in a world (ErrsOk), and a world that holds them (for the witness). -/
import Derived.Test.YtehfblmconkdhaaDoorRows
import Derived.Test.YtehfblmconkdhaaDoorChecked
import Derived.Test.YtehfblmconkdhaaDoorXNum
import Derived.Lib.LaidIn
import Derived.Stop.LaidErr
import Derived.Deep.DeepHandedRow
import Derived.Deep.DeepWitnessRowRef
import Derived.Stop.LaidErr
import Derived.ProofKit
import Derived.SizedLaws
namespace Go.Proofs.YtehfblmconkdhaaDoor.Row
open Go.Shelf Go.RowKit Go.Lib
theorem own : ownKnob Tryd.prog.godebug = none := by kernel_rfl
def litCell : DataW Unit → List Value
  | .lit (.int k n) => [.int k n]
  | _ => []
def tabCells : DataW Unit → List Value
  | .agg l => l.flatMap fun d => match d with
    | .agg l2 => l2.flatMap litCell
    | d => litCell d
  | _ => []
def text (l : List UInt8) : Value := .string ⟨l.toArray⟩
/-- The settled world; the listed variables hold what their initialisers lay; two blocks more: the two errors' structs. -/
noncomputable def laidWorld (os : Os) : World :=
  let n := (World.settled Tryd.prog os).heap.size
  let w0 := World.holding Tryd.prog os ⟨#[.cells #[text [105, 110, 118, 97, 108, 105, 100, 32, 115, 121, 110, 116, 97, 120]] 126, .cells #[text [118, 97, 108, 117, 101, 32, 111, 117, 116, 32, 111, 102, 32, 114, 97, 110, 103, 101]] 126], #[], []⟩
  let put (h : Array Obj) (g : Nat) (cs : Array Value) : Array Obj := h.modify g fun
    | .cells _ t frozen => .cells cs t frozen
    | o => o
  let h0 := put (put w0.heap 0 #[.iface 124 (.pointer (some ⟨n, 0, none⟩))]) 1 #[.iface 124 (.pointer (some ⟨n + 1, 0, none⟩))]
  let h1 := put (put h0 6 (tabCells Rows.laid_math_bits_deBruijn32tab).toArray) 7 (tabCells Rows.laid_math_bits_deBruijn64tab).toArray
  let h2 := put (put h1 3 (tabCells Rows.laid_internal_strconv_uint64pow10).toArray) 5 (tabCells Rows.laid_unicode_utf8_acceptRanges).toArray
  { w0 with heap := put h2 4 (tabCells Rows.laid_unicode_utf8_first).toArray }
def laidList : List (String × DataW Unit) := [("math/bits.deBruijn32tab", Rows.laid_math_bits_deBruijn32tab), ("math/bits.deBruijn64tab", Rows.laid_math_bits_deBruijn64tab), ("internal/strconv.uint64pow10", Rows.laid_internal_strconv_uint64pow10), ("unicode/utf8.acceptRanges", Rows.laid_unicode_utf8_acceptRanges), ("strconv.ErrRange", Rows.laid_strconv_ErrRange), ("strconv.ErrSyntax", Rows.laid_strconv_ErrSyntax), ("unicode/utf8.first", Rows.laid_unicode_utf8_first)]
noncomputable abbrev N0 : Nat := (World.settled Tryd.prog default).heap.size
theorem laid_met (os : Os) (args : Array Value) : laidMet Tryd.prog laidList ((laidWorld os).forCall (fun _ _ => 0) ⟨#[], args, []⟩).memory :=
  (LaidIn.of_run (l := laidList) [6, 7, 3, 5, 1, N0 + 1, 0, N0, 4] 8 (by kernel_rfl) (by kernel_rfl) (by kernel_rfl) (by kernel_rfl)).met
theorem star : "*" ++ "errors.errorString" = "*errors.errorString" := by decide
theorem row_err : ∀ u, Tryd.prog.typeName? 3 u = some "*errors.errorString" → u = 124 := fun u h => typeName_ptr_named (nm := "errors.errorString") (by rw [star]; kernel_rfl) (by kernel_rfl) (by decide) u (by rw [star]; exact h)
/-- WHAT THE ROW's LIST GIVES. -/
theorem errs {W : World} (hL : laidMet Tryd.prog laidList W) : Q.ErrsOk W where
  rng := by
    obtain ⟨a, s, hv, _⟩ := laid_sentinel (Go.laidMet.tail (Go.laidMet.tail (Go.laidMet.tail (Go.laidMet.tail hL)))) (g := 1) (by kernel_rfl) (ti := 68) (by kernel_rfl) Tryd.underlying68 row_err Tryd.underlying124 Tryd.underlying126 rfl rfl Tryd.underlying9 (by kernel_rfl) (by kernel_rfl)
    exact ⟨_, _, hv⟩
  syn := by
    obtain ⟨a, s, hv, _⟩ := laid_sentinel (Go.laidMet.tail (Go.laidMet.tail (Go.laidMet.tail (Go.laidMet.tail (Go.laidMet.tail hL))))) (g := 0) (by kernel_rfl) (ti := 68) (by kernel_rfl) Tryd.underlying68 row_err Tryd.underlying124 Tryd.underlying126 rfl rfl Tryd.underlying9 (by kernel_rfl) (by kernel_rfl)
    exact ⟨_, _, hv⟩
end Go.Proofs.YtehfblmconkdhaaDoor.Row
