/- strings.Cut at a text of one byte: no bound on the text's length. -/
import Derived.Test.YtehfblmconkdhaaDoorQ0
import Derived.Test.YtehfblmconkdhaaDoorXSh7
import Derived.Lib.CutLaws
import Derived.Shelf.RegionOpen
import Derived.WalkSmall
import Derived.Lib.IndexBytes
import Derived.Lib.IndexLaws
namespace Go.Proofs.YtehfblmconkdhaaDoor.Q
open Go.RowKit Go.Proofs.YtehfblmconkdhaaDoorW.PrintWords Go.Proofs.YtehfblmconkdhaaDoorW.PrintLast Go.Proofs.YtehfblmconkdhaaDoorW.PrintMore
set_option linter.unusedVariables false
set_option linter.unusedSimpArgs false
def cutA (s : ByteArray) (c : UInt8) : ByteArray := ⟨(Lib.cut s.data.toList [c]).1.toArray⟩
def cutZ (s : ByteArray) (c : UInt8) : ByteArray := ⟨(Lib.cut s.data.toList [c]).2.1.toArray⟩
def cutF (s : ByteArray) (c : UInt8) : Bool := (Lib.cut s.data.toList [c]).2.2
set_option maxRecDepth 100000 in
set_option maxHeartbeats 1000000 in
theorem cut_inner (s : ByteArray) (c : UInt8) (w : World) (hs : s.size ≤ 9223372036854775806) :
    Calls Tryd.prog 37 #[.string s, .string ⟨#[c]⟩] w fun e w' => e = .returned (.tuple #[.string (cutA s c), .string (cutZ s c), .bool (cutF s c)]) ∧ Below w.heap.size w w' := by
  have cI := fun W => Tryd.stringslite_Index_one s c W
  have ei : ∀ args w, (callFunc 54 args).run Tryd.prog w = .ok (.enter 54 args) w := enters_of Tryd.func54 (by kernel_rfl) rfl
  have hB := Aside0.mk (Below.refl w.heap.size w)
  have hi := Lib.index_one s.data.toList c
  have hge := Lib.indexByte_ge s.data.toList c
  by_cases h0 : Lib.indexByte s.data.toList c < 0
  · have hm := Lib.cutB_miss s ⟨#[c]⟩ (show Lib.index s.data.toList [c] = -1 by omega)
    have e1 : cutA s c = s := hm.1
    have e2 : cutZ s c = ByteArray.empty := hm.2.1
    have e3 : cutF s c = false := hm.2.2
    rw [e1, e2, e3]
    generalize Lib.indexByte s.data.toList c = i at h0 hge cI
    clear hm e1 e2 e3 hi
    have h1 : ¬ (0 ≤ i) := by omega
    go_enter Tryd.func37, Tryd.ntmps37
    go_wp2_with (go_at_call 54; refine (cI _).mono ?_; rintro e w1 ⟨rfl, rfl⟩)
    go_ret3
    exact ⟨rfl, hB.out⟩
  · obtain ⟨o, ho⟩ : ∃ o : Nat, Lib.indexByte s.data.toList c = o := ⟨_, (Int.toNat_of_nonneg (by omega)).symm⟩
    have hm := Lib.cutB_hit s ⟨#[c]⟩ o (show Lib.index s.data.toList [c] = o by omega)
    have hlt : o < s.size := by
      have := (List.getElem?_eq_some_iff.1 (Lib.indexByte_some ho).1).1
      rw [Lib.size_eq]
      exact this
    have e1 : cutA s c = s.extract 0 o := hm.1
    have e2 : cutZ s c = s.extract (o + 1) s.size := hm.2.1
    have e3 : cutF s c = true := hm.2.2
    rw [e1, e2, e3]
    rw [ho] at cI
    clear hm e1 e2 e3 hi ho h0 hge
    have mixed : Tryd.prog.follows .mixedOrders = true := by kernel_rfl
    have h1 : (0 : Int) ≤ (o : Int) := by omega
    have h4 : (0 : Int) ≤ (o : Int) + 1 := by omega
    have h2 : (o : Int) ≤ (s.size : Int) := by omega
    have h3 : (o : Int) + 1 ≤ (s.size : Int) := by omega
    go_enter Tryd.func37, Tryd.ntmps37
    go_wp2_with (go_at_call 54; refine (cI _).mono ?_; rintro e w1 ⟨rfl, rfl⟩)
    go_region_o
    go_wp2
    go_ret3
    exact ⟨rfl, by exact below_drewN hB.out 1⟩
theorem cut_one (s : ByteArray) (c : UInt8) (w : World) (hs : s.size ≤ 9223372036854775806) :
    Calls Tryd.prog 28 #[.string s, .string ⟨#[c]⟩] w fun e w' => e = .returned (.tuple #[.string (cutA s c), .string (cutZ s c), .bool (cutF s c)]) ∧ Below w.heap.size w w' := by
  have cI := fun W => cut_inner s c W hs
  have ei : ∀ args w, (callFunc 37 args).run Tryd.prog w = .ok (.enter 37 args) w := enters_of Tryd.func37 (by kernel_rfl) rfl
  generalize cutA s c = a at cI ⊢
  generalize cutZ s c = b at cI ⊢
  generalize cutF s c = o at cI ⊢
  go_enter Tryd.func28, Tryd.ntmps28
  go_wp2_with (go_at_call 37; refine (cI _).mono ?_; rintro e w1 ⟨rfl, hb⟩)
  go_ret3
  exact ⟨rfl, hb⟩
end Go.Proofs.YtehfblmconkdhaaDoor.Q
