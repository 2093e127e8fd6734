/- bindlelaw07.AttrValues. -/
import Derived.Test.YtehfblmconkdhaaDoorXAns7
namespace Go.Proofs.YtehfblmconkdhaaDoor.Q
open Go.RowKit Go.Proofs.YtehfblmconkdhaaDoorW.PrintWords Go.Proofs.YtehfblmconkdhaaDoorW.PrintLast Go.Proofs.YtehfblmconkdhaaDoorW.PrintMore
set_option linter.unusedVariables false
set_option linter.unusedSimpArgs false
set_option maxRecDepth 100000 in
set_option maxHeartbeats 2000000 in
theorem attrValues_walk (Ag : Option Addr) (cg : Nat) (g : List S42) (A : Option Addr) (c : Nat) (own : List S42) (key : ByteArray) (w : World) (hE : ErrsOk w) (hgr : Kd.C k42 w Ag g.length g) (hgc : g.length ≤ cg) (hgb : g.length ≤ 1000000000000000) (hgs : Small g) (hr : Kd.C k42 w A own.length own) (hc : own.length ≤ c) (hob : own.length ≤ 1000000000000000) (hos : Small own) (hkey : key.size ≤ 140737488351232) :
    Calls Tryd.prog 4 #[.slice Ag g.length cg, .slice A own.length c, .string key] w fun e w' => e = .returned (.bool true) ∧ Below w.heap.size w w' := by
  have HE := Aside0.mk hE
  have HG := Aside0.mk hgr
  have HR := Aside0.mk hr
  have HL := Aside0.mk (And.intro hgc hc)
  clear hE hgr hr hgc hc hgs hos
  by_cases hn : 100 < (g.length : Int) + (own.length : Int)
  · go_enter Tryd.func4, Tryd.ntmps4
    go_wp2_with (go_at_call 9; refine (ans7_call _ HE.out).mono ?_; rintro e w1 ⟨rfl, hb1⟩)
    go_ret
    exact ⟨rfl, hb1⟩
  · have hgn : g.length ≤ 1000000 := by omega
    have hon : own.length ≤ 1000000 := by omega
    have HS0 := Aside0.mk (made_state w)
    have HB0 := Aside0.mk (below_alloc (Below.refl w.heap.size w) (.cells #[.slice none 0 0] 30))
    go_enter Tryd.func4, Tryd.ntmps4
    go_upto_region 5 with (go_at_call 10; with_reducible refine (global_call w w.heap.size _ _ Ag cg g _ HS0.out (C_old HG.out HB0.out) HB0.out (Nat.le_refl _) (by simp; omega)).mono ?_; rintro e w1 ⟨rfl, v1, hs1, _, _, hb1⟩; have HS1 := Aside0.mk hs1; have HB1 := Aside0.mk hb1; clear hs1 hb1)
    clear HS0 HB0
    go_upto_region 7 with (go_at_call 10; with_reducible refine (global_nil Ag g.length cg _).mono ?_; rintro e w2 ⟨rfl, rfl⟩)
    rw [List.nil_append] at HS1
    have hqe : ∀ s : ByteArray, (s.toList == s.toList) = true := fun s => by simp
    go_wp2_with (first
      | (go_at_call 9; with_reducible refine (ans7_call _ (HE.out.keep HB1.out)).mono ?_; rintro e w2 ⟨rfl, hb2⟩; have HB2 := Aside0.mk (below_then HB1.out HB1.out.size hb2); have HS2 := Aside0.mk (HS1.out.below hb2); clear hb2)
      | (go_at_call 13; with_reducible refine (value_walk (some ⟨w.heap.size, 0, none⟩) g key A c own _ HS2.out.reads (C_old HR.out HB2.out) (by omega) (by omega)).mono ?_; rintro e w3 ⟨rfl, hb3⟩; have HB3 := Aside0.mk (below_then HB2.out HB2.out.size hb3); clear hb3)
      | (go_at_call 14; with_reducible refine (refvalue_call Ag cg g A c own key _ (C_old HG.out HB3.out) HL.out.1 (C_old HR.out HB3.out) HL.out.2 hon hgn).mono ?_; rintro e w4 ⟨rfl, hb4⟩; have HB4 := Aside0.mk (below_then HB3.out HB3.out.size hb4); clear hb4)
      | (go_at_call 13; with_reducible refine (value_walk none [] key A c own _ (stateIn_none _) (C_old HR.out HB4.out) (by omega) (by simp)).mono ?_; rintro e w5 ⟨rfl, hb5⟩; have HB5 := Aside0.mk (below_then HB4.out HB4.out.size hb5); clear hb5)
      | (go_at_call 14; with_reducible refine (refvalue_nil A c own key _ (C_old HR.out HB5.out) HL.out.2 hon).mono ?_; rintro e w6 ⟨rfl, hb6⟩; have HB6 := Aside0.mk (below_then HB5.out HB5.out.size hb6); clear hb6))
    go_ret
    exact ⟨rfl, HB6.out⟩
end Go.Proofs.YtehfblmconkdhaaDoor.Q
