/- RecordSizes: the row and the tied card. -/
import Derived.Test.YtehfblmconkdhaaDoorCards
import Derived.Test.YtehfblmconkdhaaDoorTie
import Derived.Test.YtehfblmconkdhaaDoorXRow
import Derived.Test.YtehfblmconkdhaaDoorXSizesLaw
namespace Go.Proofs.YtehfblmconkdhaaDoor.recordSizes
open Go.Shelf Go.ChangeShapes Go.WideShapes Go.ChangeAt Go.RowKit Go.Lib
theorem witness_row (os : Os) {H : Type} (enc : TypeId × Value → H) :
    (OpenSpec.ofChange Rows.recordSizesSpec).preRow enc Tryd.prog Tryd.f8 Rows.recordSizesRow.domain false Rows.recordSizesRow.laid ((Row.laidWorld os).forCall (fun _ _ => 0) ⟨#[], #[.int .u32 0], []⟩).memory #[.int .u32 0] := by
  have hw : (DataW.whole enc Tryd.prog ((Row.laidWorld os).forCall (fun _ _ => 0) ⟨#[], #[.int .u32 0], []⟩).memory Tryd.f8.params.toList (OpenSpec.ofChange Rows.recordSizesSpec).vars false #[Value.int .u32 0].toList 8).map (fun x => (x.1, x.2.1)) =
      some ([.lit (.int .u32 0)], []) := by kernel_rfl
  obtain ⟨⟨x1, x2, x3⟩, hx, hx1⟩ := Option.map_eq_some_iff.1 hw
  simp only [Prod.mk.injEq] at hx1
  obtain ⟨rfl, rfl⟩ := hx1
  exact OpenSpec.preRow_of_cond 8 hx (by kernel_rfl) (fun k hk => by cases hk) (by kernel_rfl) (Row.laid_met os _)
set_option maxRecDepth 100000 in
theorem lifted (os : Os) (started : os.Started) (H : Type) (enc : TypeId × Value → H) (F : Stop.Interp) :
    ReturnsInHanded {} Tryd.checked os 8 .any ((OpenSpec.ofChange Rows.recordSizesSpec).preRow enc Tryd.prog Tryd.f8 Rows.recordSizesRow.domain false Rows.recordSizesRow.laid) (((OpenSpec.ofChange Rows.recordSizesSpec).at F).post enc Tryd.prog Tryd.f8 false true false false) := by
  refine returnsInHanded_of_row (C := Tryd.checked) (s := OpenSpec.ofChange Rows.recordSizesSpec) Row.own started (by kernel_rfl) Tryd.func8
    (witness_row_atRef (enc := enc) (C := Tryd.checked) false (Row.laidWorld os) #[.int .u32 0] rfl (by kernel_rfl) (by kernel_rfl) (by kernel_rfl) (witness_row os enc)) ?_
  intro W base args ds gs before hval0 hW _ _ _ hL hS _
  have hval : ∀ (j : Nat) t v, Tryd.f8.params[j]? = some t → args[j]? = some v → Value.okWide Tryd.prog W .any base t v := hval0
  have hW' := hW
  obtain ⟨p, q, hA0, hV0, rfl, _, _⟩ := hW
  have hA : DataW.TrodAll enc Tryd.prog W 0 (fun _ => true) true Tryd.f8.params.toList args.toList ds p := hA0
  rw [Tryd.params8] at hA hval
  obtain ⟨v0, d0, rfl, rfl, h0⟩ := trodAll_one hA
  obtain ⟨rfl, rfl⟩ := trodVars_none hV0
  obtain ⟨n, rfl, rfl, rfl, hwf⟩ := open_int Tryd.underlying46 (hval 0 46 v0 rfl rfl) h0
  clear hA0 hV0 hval0
  have htab : TabsOk W := Row.tabs hL hS
  have e2 : IntKind.u32.min = 0 := rfl
  have e3 : IntKind.u32.max = 4294967295 := rfl
  have hb : 0 ≤ n ∧ n < 4294967296 := by
    simp [Lit.wf, e2, e3] at hwf
    omega
  refine (Q.bindlelaw06_RecordSizes.calls 30000 n true W htab (Q.recordSizes_true n hb.1 hb.2)).mono ?_
  rintro e W' ⟨rfl, bel⟩
  have e1 : ((OpenSpec.ofChange Rows.recordSizesSpec).at F).fn H ([.lit (.int .u32 n)] ++ []) = { results := [.lit (.bool true)], args := [.lit (.int .u32 n)] } := rfl
  refine ⟨_, rfl, _, _, _, [], [], [], hW', ?_, ?_, ?_, bel.frame _, fun h => by cases h⟩
  · rw [e1]; exact trodAll_mk1 (shut_bool Tryd.underlying4 _)
  · rw [e1]; exact trodAll_mk1 (shut_int Tryd.underlying46 hwf)
  · rw [e1]; rfl
theorem said : Rows.RecordSizesSaid :=
  OpenClaim.holds_of_cond 8 Tryd.f8 rfl rfl rfl rfl rfl rfl rfl ⟨rfl, rfl, rfl, rfl, rfl⟩ rfl rfl rfl rfl rfl (by kernel_rfl) Tryd.func8 (by kernel_rfl)
    (of_decide_eq_true (by kernel_rfl)) (by unfold Func.isWrapper; first | (rw [if_pos (by decide +kernel)]; kernel_rfl) | (rw [if_neg (by decide +kernel)]; exact ⟨rfl, rfl⟩))
    (fun os started H enc _ F => by rw [OpenClaim.pre_eq_preRow]; exact lifted os started H enc F)
theorem plain (f : FuncId) (fn : Func) (hf : Tryd.pinned.checked.prog.funcNamed "bindle/bindlelaw06.RecordSizes" = some f) (hfn : Tryd.pinned.checked.prog.funcs[f]? = some fn) :
    true = Tryd.pinned.checked.prog.looks [] ∧ ∀ (j : Nat) t, fn.params[j]? = some t → Tryd.pinned.checked.prog.wantsStandIn t = false := by
  obtain rfl : f = 8 := Option.some.inj ((show Tryd.prog.funcNamed "bindle/bindlelaw06.RecordSizes" = some 8 by kernel_rfl).symm.trans hf) |>.symm
  obtain rfl : fn = Tryd.f8 := (Option.some.inj (Tryd.func8.symm.trans hfn)).symm
  refine ⟨by kernel_rfl, fun j t ht => ?_⟩
  rw [Tryd.params8] at ht
  obtain rfl : t = 46 := by simpa using Array.mem_of_getElem? ht
  exact (show Tryd.prog.wantsStandIn 46 = false by kernel_rfl)
/-- THE CARD. -/
theorem card : Rows.RecordSizesCardSaid :=
  Claim7.holds_tied_plain_at .later [] _ _ _ _ said (fun _ h => by cases h) (by kernel_rfl) (fun _ h => by cases h) recordSizes_row_tie rfl ⟨rfl, rfl⟩ (by kernel_rfl) rfl plain (by kernel_rfl)
end Go.Proofs.YtehfblmconkdhaaDoor.recordSizes
