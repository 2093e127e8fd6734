/- bindlelaw07.AttrLast; two of its regions leave their order open: each order is walked (those lines by tools/gen5.py). -/
import Derived.Test.YtehfblmconkdhaaDoorXAns7
import Derived.Test.YtehfblmconkdhaaDoorXApp5
namespace Go.Proofs.YtehfblmconkdhaaDoor.Q
open Go.RowKit Go.Proofs.YtehfblmconkdhaaDoorW.PrintWords Go.Proofs.YtehfblmconkdhaaDoorW.PrintLast Go.Proofs.YtehfblmconkdhaaDoorW.PrintMore
set_option linter.unusedVariables false
set_option linter.unusedSimpArgs false
set_option maxRecDepth 100000 in
set_option maxHeartbeats 4000000 in
theorem attrLast_walk (h : Hd) (Ag : Option Addr) (cg : Nat) (g : List S42) (A : Option Addr) (c : Nat) (own : List S42) (key value : ByteArray) (w : World) (hE : ErrsOk w)
    (hgr : Kd.C k42 w Ag g.length g) (hgc : g.length ≤ cg) (hgb : g.length ≤ 1000000000000000) (hgs : Small g)
    (hr : Kd.C k42 w A own.length own) (hc : own.length ≤ c) (hn : own.length ≤ 1000000000000000) (hs : Small own) (hkey : key.size ≤ 140737488351232) (hval : value.size ≤ 140737488351232) :
    Calls Tryd.prog 5 #[.agg #[.string h.name, .string h.link, .int .u8 h.kind, .int .i64 h.mode, .int .i64 h.uid, .int .i64 h.gid, .int .i64 h.time, .int .i64 h.size, .bool h.gnu], .slice Ag g.length cg, .slice A own.length c, .string key, .string value] w fun e w' => e = .returned (.bool true) ∧ Below w.heap.size w w' := by
  have HE := Aside0.mk hE
  have HG := Aside0.mk hgr
  have HR := Aside0.mk hr
  have HC := Aside0.mk hc
  have HS := Aside0.mk (And.intro hgs hs)
  have HVAL := Aside0.mk (show (rComment value).f1.size ≤ 281474976710656 from Nat.le_trans hval (by decide))
  clear hE hgr hr hgc hc hgs hs hkey hval
  by_cases hnn : 100 < (g.length : Int) + (own.length : Int)
  · go_enter Tryd.func5, Tryd.ntmps5
    have HB0 := Aside0.mk (below_alloc (Below.refl w.heap.size w) (.cells #[.string h.name, .string h.link, .int .u8 h.kind, .int .i64 h.mode, .int .i64 h.uid, .int .i64 h.gid, .int .i64 h.time, .int .i64 h.size, .bool h.gnu] 25))
    go_wp2_with (go_at_call 9; with_reducible refine (ans7_call _ (HE.out.keep HB0.out)).mono ?_; rintro e w1 ⟨rfl, hb1⟩; have HB1 := Aside0.mk (below_then HB0.out HB0.out.size hb1); clear hb1)
    go_ret
    exact ⟨rfl, HB1.out⟩
  · have HLG := Aside0.mk (show g.length ≤ 1000000 by omega)
    have HLO := Aside0.mk (show own.length ≤ 100 by omega)
    obtain ⟨o1, ho1⟩ : ∃ o, applyO g own h = o := ⟨_, rfl⟩
    have HO1 := Aside0.mk ho1
    have HO2 : Aside0 (applyO g (own ++ [rComment value]) h = o1) := ⟨by rw [apply_comment]; exact ho1⟩
    obtain ⟨o3, ho3⟩ : ∃ o, applyO g (own ++ hiddenL) h = o := ⟨_, rfl⟩
    have HO3 := Aside0.mk ho3
    have HH3 : Aside0 (hdOf o3 = h ∧ errOf o3 = 0) := ⟨by rw [← ho3, apply_hidden]; exact ⟨rfl, rfl⟩⟩
    clear ho1 ho3
    obtain ⟨Z, hZ⟩ : ∃ Z, Obj.cells #[.string h.name, .string h.link, .int .u8 h.kind, .int .i64 h.mode, .int .i64 h.uid, .int .i64 h.gid, .int .i64 h.time, .int .i64 h.size, .bool h.gnu] 25 = Z := ⟨_, rfl⟩
    have hw1 : HdBlk (w.alloc Z) w.heap.size h := by rw [← hZ]; exact HdBlk.made w h
    have hs1 := made_state (w.alloc Z)
    rw [World.size_alloc] at hs1
    have HB0 := Aside0.mk (below_alloc (below_alloc (Below.refl w.heap.size w) Z) (.cells #[.slice none 0 0] 30))
    have HW0 := Aside0.mk (hw1.below (below_alloc (Below.refl _ _) (.cells #[.slice none 0 0] 30)))
    go_enter Tryd.func5, Tryd.ntmps5
    go_upto_region 4 with (fail)
    have HS0 := Aside0.mk (show StateOwn _ w.heap.size (w.heap.size + 1) (.slice none 0 0) [] from ⟨hs1.1, Kd.R_nil _ _ _ _ _⟩)
    clear hs1 hw1 hZ
    generalize (w.alloc Z).alloc (.cells #[.slice none 0 0] 30) = W0 at HS0 HB0 HW0 ⊢
    go_upto_region 5 with (go_at_call 10; with_reducible refine (global_call w (w.heap.size + 1) _ _ Ag cg g _ HS0.out (C_old HG.out HB0.out) HB0.out (Nat.le_succ _) (by have := HLG.out; simp; omega)).mono ?_; rintro e w1 ⟨rfl, v1, hs1, ho1, hg1, hb1⟩; have HS1 := Aside0.mk hs1; have HW1 := Aside0.mk (HW0.out.grew hg1 (by omega) (by simp [Value.ownBlock])); have HB1 := Aside0.mk hb1; clear hs1 ho1 hg1 hb1)
    clear HS0 HB0 HW0
    rw [List.nil_append] at HS1
    obtain ⟨k0, k1, k2, k3, k4, k5, k6, k7, k8⟩ := HW1.out.at
    go_upto_region 6 with (go_at_call 11; with_reducible refine (apply_call (some ⟨w.heap.size + 1, 0, none⟩) g h A c own _ HS1.out.reads (C_old HR.out HB1.out) (by have := HLO.out; omega) HLG.out (HE.out.keep HB1.out) HS.out.1 HS.out.2 o1 HO1.out).mono ?_; rintro e w2 ⟨rfl, hb2⟩; have HS2 := Aside0.mk (HS1.out.below hb2); have HW2 := Aside0.mk (HW1.out.below hb2); have HB2 := Aside0.mk (below_then HB1.out HB1.out.size hb2); clear hb2)
    clear k0 k1 k2 k3 k4 k5 k6 k7 k8 HS1 HW1 HB1
    obtain ⟨Y, hY⟩ : ∃ Y, Obj.cells #[.string (hdOf o1).name, .string (hdOf o1).link, .int .u8 (hdOf o1).kind, .int .i64 (hdOf o1).mode, .int .i64 (hdOf o1).uid, .int .i64 (hdOf o1).gid, .int .i64 (hdOf o1).time, .int .i64 (hdOf o1).size, .bool (hdOf o1).gnu] 25 = Y := ⟨_, rfl⟩
    have bD := below_drew1 (below_alloc (Below.refl w2.heap.size w2) Y)
    have HBd := Aside0.mk (below_then HB2.out HB2.out.size bD)
    have HWd := Aside0.mk (HW2.out.below bD)
    have HSd := Aside0.mk (HS2.out.below bD)
    have HXd := Aside0.mk ((show HdBlk (w2.alloc Y) w2.heap.size (hdOf o1) by rw [← hY]; exact HdBlk.made w2 _).below (below_drew1 (Below.refl _ _)))
    have HWd0 := HWd.out
    try rw [hY]
    clear hY HS2 HW2 HB2 bD
    refine start_ (n := 16) (S := fun w' => HdBlk w' w.heap.size h) (ds := [14]) #[false, false, false, false, false, false, false, false, false, false, false, false, false, false, false, false] (by kernel_rfl) rfl rfl (HWd0) (fun hHeld => ?_)
    have fB := Below.refl (w2.alloc Y).drew.heap.size (w2.alloc Y).drew
    clear HWd0
    generalize (w2.alloc Y).drew = wd at fB HBd HWd HSd HXd hHeld ⊢
    refine pure_ (i := 0) (N := some 38) (v := ?_) (a' := ?_) #[true, false, false, false, false, false, false, false, false, false, false, false, false, false, false, false] rfl rfl (by kernel_rfl) (fun _ _ _ h => h) (Or.inl ⟨by rfl, ?_⟩) ?_ ?_
    rotate_left
    · intro w'
      go_simp
      with_reducible rfl
    rotate_left
    · simp only [Act.put, List.setIfInBounds_toArray, List.set_cons_zero, List.set_cons_succ, i64_w, i32_w]
      rfl
    refine pure_ (i := 3) (N := some 41) (v := ?_) (a' := ?_) #[true, false, false, true, false, false, false, false, false, false, false, false, false, false, false, false] rfl rfl (by kernel_rfl) (fun _ _ _ h => h) (Or.inl ⟨by rfl, ?_⟩) ?_ ?_
    rotate_left
    · intro w'
      go_simp
      with_reducible rfl
    rotate_left
    · simp only [Act.put, List.setIfInBounds_toArray, List.set_cons_zero, List.set_cons_succ, i64_w, i32_w]
      rfl
    refine pure_ (i := 5) (N := some 43) (v := ?_) (a' := ?_) #[true, false, false, true, false, true, false, false, false, false, false, false, false, false, false, false] rfl rfl (by kernel_rfl) (fun _ _ _ h => h) (Or.inl ⟨by rfl, ?_⟩) ?_ ?_
    rotate_left
    · intro w'
      go_simp
      with_reducible rfl
    rotate_left
    · simp only [Act.put, List.setIfInBounds_toArray, List.set_cons_zero, List.set_cons_succ, i64_w, i32_w]
      rfl
    refine pure_ (i := 6) (N := some 44) (v := ?_) (a' := ?_) #[true, false, false, true, false, true, true, false, false, false, false, false, false, false, false, false] rfl rfl (by kernel_rfl) (fun _ _ _ h => h) (Or.inl ⟨by rfl, ?_⟩) ?_ ?_
    rotate_left
    · intro w'
      go_simp
      with_reducible rfl
    rotate_left
    · simp only [Act.put, List.setIfInBounds_toArray, List.set_cons_zero, List.set_cons_succ, i64_w, i32_w]
      rfl
    refine take_ (i := 1) (N := some 39) (v := ?_) (a' := ?_) #[true, true, false, true, false, true, true, false, false, false, false, false, false, false, false, false] rfl rfl (by kernel_rfl) (fun _ _ _ h => h) (Or.inl ⟨by rfl, ?_⟩) hHeld ?_ ?_
    rotate_left
    · intro w' s0
      obtain ⟨q0, q1, q2, q3, q4, q5, q6, q7, q8⟩ := HdBlk.at s0
      go_simp
      with_reducible rfl
    rotate_left
    · simp only [Act.put, List.setIfInBounds_toArray, List.set_cons_zero, List.set_cons_succ, i64_w, i32_w]
      rfl
    refine join_ (σ := Value × Value × Nat × Value × Nat) 2 #[true, true, true, true, true, true, true, true, true, true, true, true, true, true, false, false] (fun s => [(40, s.1), (42, s.2.1), (45, .slice (some ⟨s.2.2.1, 0, none⟩) 1 1), (46, s.2.2.2.1), (47, .tuple #[.agg #[.string (hdOf o1).name, .string (hdOf o1).link, .int .u8 (hdOf o1).kind, .int .i64 (hdOf o1).mode, .int .i64 (hdOf o1).uid, .int .i64 (hdOf o1).gid, .int .i64 (hdOf o1).time, .int .i64 (hdOf o1).size, .bool (hdOf o1).gnu], .int .i64 (errOf o1)]), (37, .tuple #[.agg #[.string (hdOf o1).name, .string (hdOf o1).link, .int .u8 (hdOf o1).kind, .int .i64 (hdOf o1).mode, .int .i64 (hdOf o1).uid, .int .i64 (hdOf o1).gid, .int .i64 (hdOf o1).time, .int .i64 (hdOf o1).size, .bool (hdOf o1).gnu], .int .i64 (errOf o1)]), (48, .agg #[.string (hdOf o1).name, .string (hdOf o1).link, .int .u8 (hdOf o1).kind, .int .i64 (hdOf o1).mode, .int .i64 (hdOf o1).uid, .int .i64 (hdOf o1).gid, .int .i64 (hdOf o1).time, .int .i64 (hdOf o1).size, .bool (hdOf o1).gnu]), (49, .int .i64 (errOf o1)), (14, .pointer (some ⟨s.2.2.2.2, 0, none⟩))]) (fun s w' => Below wd.heap.size wd w' ∧ ZeroBlk w' s.2.2.2.2 ∧ wd.heap.size ≤ s.2.2.2.2) ?_ ?_
    rotate_left
    · intro hJ2_4_7_8_9_13
      refine join_ (σ := Value × Value × Nat × Value × Nat) 3 #[true, true, true, true, true, true, true, true, true, true, true, true, true, false, false, false] (fun s => [(40, s.1), (42, s.2.1), (45, .slice (some ⟨s.2.2.1, 0, none⟩) 1 1), (46, s.2.2.2.1), (47, .tuple #[.agg #[.string (hdOf o1).name, .string (hdOf o1).link, .int .u8 (hdOf o1).kind, .int .i64 (hdOf o1).mode, .int .i64 (hdOf o1).uid, .int .i64 (hdOf o1).gid, .int .i64 (hdOf o1).time, .int .i64 (hdOf o1).size, .bool (hdOf o1).gnu], .int .i64 (errOf o1)]), (37, .tuple #[.agg #[.string (hdOf o1).name, .string (hdOf o1).link, .int .u8 (hdOf o1).kind, .int .i64 (hdOf o1).mode, .int .i64 (hdOf o1).uid, .int .i64 (hdOf o1).gid, .int .i64 (hdOf o1).time, .int .i64 (hdOf o1).size, .bool (hdOf o1).gnu], .int .i64 (errOf o1)]), (48, .agg #[.string (hdOf o1).name, .string (hdOf o1).link, .int .u8 (hdOf o1).kind, .int .i64 (hdOf o1).mode, .int .i64 (hdOf o1).uid, .int .i64 (hdOf o1).gid, .int .i64 (hdOf o1).time, .int .i64 (hdOf o1).size, .bool (hdOf o1).gnu]), (49, .int .i64 (errOf o1))]) (fun s w' => Below wd.heap.size wd w') ?_ ?_
      rotate_left
      · intro hJ2_4_7_8_9
        refine join_ (σ := Value × Value × Nat × Value × Nat) 6 #[true, true, true, true, true, true, true, true, true, false, false, false, false, true, false, false] (fun s => [(40, s.1), (42, s.2.1), (45, .slice (some ⟨s.2.2.1, 0, none⟩) 1 1), (46, s.2.2.2.1), (14, .pointer (some ⟨s.2.2.2.2, 0, none⟩))]) (fun s w' => Below wd.heap.size wd w' ∧ OwnRecs w' wd.heap.size s.2.2.2.1 (own ++ [rComment value]) ∧ ZeroBlk w' s.2.2.2.2 ∧ wd.heap.size ≤ s.2.2.2.2) ?_ ?_
        rotate_left
        · intro hJ2_4_7_8_13
          refine join_ (σ := Value × Value × Nat × Value × Nat) 7 #[true, true, true, true, true, true, true, true, true, false, false, false, false, false, false, false] (fun s => [(40, s.1), (42, s.2.1), (45, .slice (some ⟨s.2.2.1, 0, none⟩) 1 1), (46, s.2.2.2.1)]) (fun s w' => Below wd.heap.size wd w' ∧ OwnRecs w' wd.heap.size s.2.2.2.1 (own ++ [rComment value])) ?_ ?_
          rotate_left
          · intro hJ2_4_7_8
            refine join_ (σ := Value × Value × Nat × Value × Nat) 7 #[true, true, true, true, true, true, true, true, false, false, false, false, false, true, false, false] (fun s => [(40, s.1), (42, s.2.1), (45, .slice (some ⟨s.2.2.1, 0, none⟩) 1 1), (14, .pointer (some ⟨s.2.2.2.2, 0, none⟩))]) (fun s w' => Below wd.heap.size wd w' ∧ OwnRecs w' wd.heap.size s.2.1 own ∧ RecBlk w' s.2.2.1 (rComment value) ∧ ZeroBlk w' s.2.2.2.2 ∧ wd.heap.size ≤ s.2.2.2.2) ?_ ?_
            rotate_left
            · intro hJ2_4_7_13
              refine join_ (σ := Value × Value × Nat × Value × Nat) 8 #[true, true, true, true, true, true, true, true, false, false, false, false, false, false, false, false] (fun s => [(40, s.1), (42, s.2.1), (45, .slice (some ⟨s.2.2.1, 0, none⟩) 1 1)]) (fun s w' => Below wd.heap.size wd w' ∧ OwnRecs w' wd.heap.size s.2.1 own ∧ RecBlk w' s.2.2.1 (rComment value)) ?_ ?_
              rotate_left
              · intro hJ2_4_7
                refine join_ (σ := Value × Value × Nat × Value × Nat) 8 #[true, true, true, true, true, true, true, false, false, false, false, false, false, true, false, false] (fun s => [(40, s.1), (42, s.2.1), (14, .pointer (some ⟨s.2.2.2.2, 0, none⟩))]) (fun s w' => Below wd.heap.size wd w' ∧ OwnRecs w' wd.heap.size s.2.1 own ∧ ZeroBlk w' s.2.2.2.2 ∧ wd.heap.size ≤ s.2.2.2.2) ?_ ?_
                rotate_left
                · intro hJ2_4_13
                  refine join_ (σ := Value × Value × Nat × Value × Nat) 8 #[true, true, true, true, false, true, true, true, false, false, false, false, false, true, false, false] (fun s => [(40, s.1), (45, .slice (some ⟨s.2.2.1, 0, none⟩) 1 1), (14, .pointer (some ⟨s.2.2.2.2, 0, none⟩))]) (fun s w' => Below wd.heap.size wd w' ∧ OwnRecs w' wd.heap.size s.1 [] ∧ RecBlk w' s.2.2.1 (rComment value) ∧ some s.2.2.1 ≠ s.1.ownBlock ∧ ZeroBlk w' s.2.2.2.2 ∧ wd.heap.size ≤ s.2.2.2.2) ?_ ?_
                  rotate_left
                  · intro hJ2_7_13
                    refine join_ (σ := Value × Value × Nat × Value × Nat) 9 #[true, true, true, true, true, true, true, false, false, false, false, false, false, false, false, false] (fun s => [(40, s.1), (42, s.2.1)]) (fun s w' => Below wd.heap.size wd w' ∧ OwnRecs w' wd.heap.size s.2.1 own) ?_ ?_
                    rotate_left
                    · intro hJ2_4
                      refine join_ (σ := Value × Value × Nat × Value × Nat) 9 #[true, true, true, true, false, true, true, true, false, false, false, false, false, false, false, false] (fun s => [(40, s.1), (45, .slice (some ⟨s.2.2.1, 0, none⟩) 1 1)]) (fun s w' => Below wd.heap.size wd w' ∧ OwnRecs w' wd.heap.size s.1 [] ∧ RecBlk w' s.2.2.1 (rComment value) ∧ some s.2.2.1 ≠ s.1.ownBlock) ?_ ?_
                      rotate_left
                      · intro hJ2_7
                        refine join_ (σ := Value × Value × Nat × Value × Nat) 9 #[true, true, true, true, false, true, true, false, false, false, false, false, false, true, false, false] (fun s => [(40, s.1), (14, .pointer (some ⟨s.2.2.2.2, 0, none⟩))]) (fun s w' => Below wd.heap.size wd w' ∧ OwnRecs w' wd.heap.size s.1 [] ∧ ZeroBlk w' s.2.2.2.2 ∧ wd.heap.size ≤ s.2.2.2.2) ?_ ?_
                        rotate_left
                        · intro hJ2_13
                          refine join_ (σ := Value × Value × Nat × Value × Nat) 9 #[true, true, false, true, false, true, true, true, false, false, false, false, false, true, false, false] (fun s => [(45, .slice (some ⟨s.2.2.1, 0, none⟩) 1 1), (14, .pointer (some ⟨s.2.2.2.2, 0, none⟩))]) (fun s w' => Below wd.heap.size wd w' ∧ RecBlk w' s.2.2.1 (rComment value) ∧ ZeroBlk w' s.2.2.2.2 ∧ wd.heap.size ≤ s.2.2.2.2) ?_ ?_
                          rotate_left
                          · intro hJ7_13
                            refine join_ (σ := Value × Value × Nat × Value × Nat) 10 #[true, true, true, true, false, true, true, false, false, false, false, false, false, false, false, false] (fun s => [(40, s.1)]) (fun s w' => Below wd.heap.size wd w' ∧ OwnRecs w' wd.heap.size s.1 []) ?_ ?_
                            rotate_left
                            · intro hJ2
                              refine join_ (σ := Value × Value × Nat × Value × Nat) 10 #[true, true, false, true, false, true, true, true, false, false, false, false, false, false, false, false] (fun s => [(45, .slice (some ⟨s.2.2.1, 0, none⟩) 1 1)]) (fun s w' => Below wd.heap.size wd w' ∧ RecBlk w' s.2.2.1 (rComment value)) ?_ ?_
                              rotate_left
                              · intro hJ7
                                refine join_ (σ := Value × Value × Nat × Value × Nat) 10 #[true, true, false, true, false, true, true, false, false, false, false, false, false, true, false, false] (fun s => [(14, .pointer (some ⟨s.2.2.2.2, 0, none⟩))]) (fun s w' => Below wd.heap.size wd w' ∧ ZeroBlk w' s.2.2.2.2 ∧ wd.heap.size ≤ s.2.2.2.2) ?_ ?_
                                rotate_left
                                · intro hJ13
                                  refine three_ (i := 2) (j := 7) (k := 13) (Ni := some 40) (Nj := some 45) (Nk := some 14) #[true, true, true, true, false, true, true, false, false, false, false, false, false, false, false, false] #[true, true, false, true, false, true, true, true, false, false, false, false, false, false, false, false] #[true, true, false, true, false, true, true, false, false, false, false, false, false, true, false, false] rfl rfl rfl rfl rfl rfl (by kernel_rfl) (by decide) (by decide) (by decide) (fun K hK => ?_) (fun K hK => ?_) (fun K hK => ?_)
                                  · skip
                                    refine value_ (w1 := ?_) (v := ?_) (by rfl) rfl ?_ ?_
                                    rotate_left 2
                                    · go_simp
                                      constructor
                                      · rfl
                                      · rfl
                                    have bA : Below wd.heap.size wd (wd.alloc (.cells #[] 42)) := below_alloc (Below.refl _ _) _
                                    have n40 : OwnRecs (wd.alloc (.cells #[] 42)) wd.heap.size (.slice (some ⟨wd.heap.size, 0, none⟩) 0 0) [] := recs_own wd wd.heap.size [] fB.size (Nat.zero_le _)
                                    have fB := below_then fB fB.size bA
                                    refine hK.out _ _ (HWd.out.below fB) (fun hHeld => ?_)
                                    clear hK K
                                    refine norm_ (a' := ?_) ?_ ?_
                                    rotate_left
                                    · show Act.put _ (some 40) _ = _
                                      simp only [Act.put, List.setIfInBounds_toArray, List.set_cons_zero, List.set_cons_succ, i64_w, i32_w]
                                      rfl
                                    exact norm_ (by first | (simp only [putAll, Act.put, List.setIfInBounds_toArray, List.set_cons_zero, List.set_cons_succ]; done) | (simp only [putAll, Act.put, List.setIfInBounds_toArray, List.set_cons_zero, List.set_cons_succ]; rfl)) (hJ2 (.slice (some ⟨wd.heap.size, 0, none⟩) 0 0, .nilIface, 0, .nilIface, 0) _ ⟨fB, n40⟩)
                                  · skip
                                    refine value_ (w1 := ?_) (v := ?_) (by rfl) rfl ?_ ?_
                                    rotate_left 2
                                    · go_simp
                                      constructor
                                      · rfl
                                      · rfl
                                    have bA : Below wd.heap.size wd (wd.alloc (.cells #[.string (rComment value).f0, .string (rComment value).f1] 42)) := below_alloc (Below.refl _ _) _
                                    have n45 : RecBlk (wd.alloc (.cells #[.string (rComment value).f0, .string (rComment value).f1] 42)) wd.heap.size (rComment value) := World.alloc_heap_new wd _
                                    have fB := below_then fB fB.size bA
                                    refine hK.out _ _ (HWd.out.below fB) (fun hHeld => ?_)
                                    clear hK K
                                    refine norm_ (a' := ?_) ?_ ?_
                                    rotate_left
                                    · show Act.put _ (some 45) _ = _
                                      simp only [Act.put, List.setIfInBounds_toArray, List.set_cons_zero, List.set_cons_succ, i64_w, i32_w]
                                      rfl
                                    exact norm_ (by first | (simp only [putAll, Act.put, List.setIfInBounds_toArray, List.set_cons_zero, List.set_cons_succ]; done) | (simp only [putAll, Act.put, List.setIfInBounds_toArray, List.set_cons_zero, List.set_cons_succ]; rfl)) (hJ7 (.nilIface, .nilIface, wd.heap.size, .nilIface, 0) _ ⟨fB, n45⟩)
                                  · skip
                                    refine value_ (w1 := ?_) (v := ?_) (by rfl) rfl ?_ ?_
                                    rotate_left 2
                                    · go_simp
                                      constructor
                                      · rfl
                                      · rfl
                                    have bA : Below wd.heap.size wd (wd.alloc (.cells #[.string ⟨#[]⟩, .string ⟨#[]⟩, .int .u8 0, .int .i64 0, .int .i64 0, .int .i64 0, .int .i64 0, .int .i64 0, .bool false] 25)) := below_alloc (Below.refl _ _) _
                                    have n14 : ZeroBlk (wd.alloc (.cells #[.string ⟨#[]⟩, .string ⟨#[]⟩, .int .u8 0, .int .i64 0, .int .i64 0, .int .i64 0, .int .i64 0, .int .i64 0, .bool false] 25)) wd.heap.size := World.alloc_heap_new wd _
                                    have m14 := fB.size
                                    have fB := below_then fB fB.size bA
                                    refine hK.out _ _ (HWd.out.below fB) (fun hHeld => ?_)
                                    clear hK K
                                    refine norm_ (a' := ?_) ?_ ?_
                                    rotate_left
                                    · show Act.put _ (some 14) _ = _
                                      simp only [Act.put, List.setIfInBounds_toArray, List.set_cons_zero, List.set_cons_succ, i64_w, i32_w]
                                      rfl
                                    exact norm_ (by first | (simp only [putAll, Act.put, List.setIfInBounds_toArray, List.set_cons_zero, List.set_cons_succ]; done) | (simp only [putAll, Act.put, List.setIfInBounds_toArray, List.set_cons_zero, List.set_cons_succ]; rfl)) (hJ13 (.nilIface, .nilIface, 0, .nilIface, wd.heap.size) _ ⟨fB, n14, m14⟩)
                                · skip
                                  rintro ⟨s40, s42, b45, s46, b14⟩ wq ⟨fB, f14, g14⟩
                                  (try dsimp only at fB f14 g14)
                                  have hHeld : HdBlk wq w.heap.size h := HWd.out.below fB
                                  refine norm_ (a' := ?_) ?_ ?_
                                  rotate_left
                                  · simp only [putAll, Act.put, List.setIfInBounds_toArray, List.set_cons_zero, List.set_cons_succ]
                                    rfl
                                  refine two_ (i := 2) (j := 7) (Ni := some 40) (Nj := some 45) #[true, true, true, true, false, true, true, false, false, false, false, false, false, true, false, false] #[true, true, false, true, false, true, true, true, false, false, false, false, false, true, false, false] rfl rfl rfl rfl (by kernel_rfl) (by decide) (by decide) (fun K hK => ?_) (fun K hK => ?_)
                                  · skip
                                    refine value_ (w1 := ?_) (v := ?_) (by rfl) rfl ?_ ?_
                                    rotate_left 2
                                    · go_simp
                                      constructor
                                      · rfl
                                      · rfl
                                    have bA : Below wq.heap.size wq (wq.alloc (.cells #[] 42)) := below_alloc (Below.refl _ _) _
                                    have f14 := f14.below bA
                                    have n40 : OwnRecs (wq.alloc (.cells #[] 42)) wd.heap.size (.slice (some ⟨wq.heap.size, 0, none⟩) 0 0) [] := recs_own wq wd.heap.size [] fB.size (Nat.zero_le _)
                                    have fB := below_then fB fB.size bA
                                    refine hK.out _ _ (HWd.out.below fB) (fun hHeld => ?_)
                                    clear hK K
                                    refine norm_ (a' := ?_) ?_ ?_
                                    rotate_left
                                    · show Act.put _ (some 40) _ = _
                                      simp only [Act.put, List.setIfInBounds_toArray, List.set_cons_zero, List.set_cons_succ, i64_w, i32_w]
                                      rfl
                                    exact norm_ (by first | (simp only [putAll, Act.put, List.setIfInBounds_toArray, List.set_cons_zero, List.set_cons_succ]; done) | (simp only [putAll, Act.put, List.setIfInBounds_toArray, List.set_cons_zero, List.set_cons_succ]; rfl)) (hJ2_13 (.slice (some ⟨wq.heap.size, 0, none⟩) 0 0, .nilIface, 0, .nilIface, b14) _ ⟨fB, n40, f14, g14⟩)
                                  · skip
                                    refine value_ (w1 := ?_) (v := ?_) (by rfl) rfl ?_ ?_
                                    rotate_left 2
                                    · go_simp
                                      constructor
                                      · rfl
                                      · rfl
                                    have bA : Below wq.heap.size wq (wq.alloc (.cells #[.string (rComment value).f0, .string (rComment value).f1] 42)) := below_alloc (Below.refl _ _) _
                                    have f14 := f14.below bA
                                    have n45 : RecBlk (wq.alloc (.cells #[.string (rComment value).f0, .string (rComment value).f1] 42)) wq.heap.size (rComment value) := World.alloc_heap_new wq _
                                    have fB := below_then fB fB.size bA
                                    refine hK.out _ _ (HWd.out.below fB) (fun hHeld => ?_)
                                    clear hK K
                                    refine norm_ (a' := ?_) ?_ ?_
                                    rotate_left
                                    · show Act.put _ (some 45) _ = _
                                      simp only [Act.put, List.setIfInBounds_toArray, List.set_cons_zero, List.set_cons_succ, i64_w, i32_w]
                                      rfl
                                    exact norm_ (by first | (simp only [putAll, Act.put, List.setIfInBounds_toArray, List.set_cons_zero, List.set_cons_succ]; done) | (simp only [putAll, Act.put, List.setIfInBounds_toArray, List.set_cons_zero, List.set_cons_succ]; rfl)) (hJ7_13 (.nilIface, .nilIface, wq.heap.size, .nilIface, b14) _ ⟨fB, n45, f14, g14⟩)
                              · skip
                                rintro ⟨s40, s42, b45, s46, b14⟩ wq ⟨fB, f45⟩
                                (try dsimp only at fB f45)
                                have hHeld : HdBlk wq w.heap.size h := HWd.out.below fB
                                refine norm_ (a' := ?_) ?_ ?_
                                rotate_left
                                · simp only [putAll, Act.put, List.setIfInBounds_toArray, List.set_cons_zero, List.set_cons_succ]
                                  rfl
                                refine two_ (i := 2) (j := 13) (Ni := some 40) (Nj := some 14) #[true, true, true, true, false, true, true, true, false, false, false, false, false, false, false, false] #[true, true, false, true, false, true, true, true, false, false, false, false, false, true, false, false] rfl rfl rfl rfl (by kernel_rfl) (by decide) (by decide) (fun K hK => ?_) (fun K hK => ?_)
                                · skip
                                  refine value_ (w1 := ?_) (v := ?_) (by rfl) rfl ?_ ?_
                                  rotate_left 2
                                  · go_simp
                                    constructor
                                    · rfl
                                    · rfl
                                  have lt45 := f45.lt
                                  have bA : Below wq.heap.size wq (wq.alloc (.cells #[] 42)) := below_alloc (Below.refl _ _) _
                                  have f45 := f45.below bA
                                  have n40 : OwnRecs (wq.alloc (.cells #[] 42)) wd.heap.size (.slice (some ⟨wq.heap.size, 0, none⟩) 0 0) [] := recs_own wq wd.heap.size [] fB.size (Nat.zero_le _)
                                  have d45 : some b45 ≠ (Value.slice (some ⟨wq.heap.size, 0, none⟩) 0 0).ownBlock := fun e_ => Nat.lt_irrefl _ ((Option.some.inj e_ : b45 = wq.heap.size) ▸ lt45)
                                  have fB := below_then fB fB.size bA
                                  refine hK.out _ _ (HWd.out.below fB) (fun hHeld => ?_)
                                  clear hK K
                                  refine norm_ (a' := ?_) ?_ ?_
                                  rotate_left
                                  · show Act.put _ (some 40) _ = _
                                    simp only [Act.put, List.setIfInBounds_toArray, List.set_cons_zero, List.set_cons_succ, i64_w, i32_w]
                                    rfl
                                  exact norm_ (by first | (simp only [putAll, Act.put, List.setIfInBounds_toArray, List.set_cons_zero, List.set_cons_succ]; done) | (simp only [putAll, Act.put, List.setIfInBounds_toArray, List.set_cons_zero, List.set_cons_succ]; rfl)) (hJ2_7 (.slice (some ⟨wq.heap.size, 0, none⟩) 0 0, .nilIface, b45, .nilIface, 0) _ ⟨fB, n40, f45, d45⟩)
                                · skip
                                  refine value_ (w1 := ?_) (v := ?_) (by rfl) rfl ?_ ?_
                                  rotate_left 2
                                  · go_simp
                                    constructor
                                    · rfl
                                    · rfl
                                  have bA : Below wq.heap.size wq (wq.alloc (.cells #[.string ⟨#[]⟩, .string ⟨#[]⟩, .int .u8 0, .int .i64 0, .int .i64 0, .int .i64 0, .int .i64 0, .int .i64 0, .bool false] 25)) := below_alloc (Below.refl _ _) _
                                  have f45 := f45.below bA
                                  have n14 : ZeroBlk (wq.alloc (.cells #[.string ⟨#[]⟩, .string ⟨#[]⟩, .int .u8 0, .int .i64 0, .int .i64 0, .int .i64 0, .int .i64 0, .int .i64 0, .bool false] 25)) wq.heap.size := World.alloc_heap_new wq _
                                  have m14 := fB.size
                                  have fB := below_then fB fB.size bA
                                  refine hK.out _ _ (HWd.out.below fB) (fun hHeld => ?_)
                                  clear hK K
                                  refine norm_ (a' := ?_) ?_ ?_
                                  rotate_left
                                  · show Act.put _ (some 14) _ = _
                                    simp only [Act.put, List.setIfInBounds_toArray, List.set_cons_zero, List.set_cons_succ, i64_w, i32_w]
                                    rfl
                                  exact norm_ (by first | (simp only [putAll, Act.put, List.setIfInBounds_toArray, List.set_cons_zero, List.set_cons_succ]; done) | (simp only [putAll, Act.put, List.setIfInBounds_toArray, List.set_cons_zero, List.set_cons_succ]; rfl)) (hJ7_13 (.nilIface, .nilIface, b45, .nilIface, wq.heap.size) _ ⟨fB, f45, n14, m14⟩)
                            · skip
                              rintro ⟨s40, s42, b45, s46, b14⟩ wq ⟨fB, f40⟩
                              (try dsimp only at fB f40)
                              have hHeld : HdBlk wq w.heap.size h := HWd.out.below fB
                              refine norm_ (a' := ?_) ?_ ?_
                              rotate_left
                              · simp only [putAll, Act.put, List.setIfInBounds_toArray, List.set_cons_zero, List.set_cons_succ]
                                rfl
                              refine three_ (i := 4) (j := 7) (k := 13) (Ni := some 42) (Nj := some 45) (Nk := some 14) #[true, true, true, true, true, true, true, false, false, false, false, false, false, false, false, false] #[true, true, true, true, false, true, true, true, false, false, false, false, false, false, false, false] #[true, true, true, true, false, true, true, false, false, false, false, false, false, true, false, false] rfl rfl rfl rfl rfl rfl (by kernel_rfl) (by decide) (by decide) (by decide) (fun K hK => ?_) (fun K hK => ?_) (fun K hK => ?_)
                              · skip
                                refine append_recs_step (w0 := wd) (.tmp 40) (.tmp 41) s40 [] own A own.length c (by rfl) rfl rfl rfl f40 (C_old HR.out (below_then HBd.out HBd.out.size fB)) fB (by have := HLO.out; simp; omega) ?_
                                intro v42 w42 r42 B42 G42
                                rw [List.nil_append] at r42
                                have fB := B42
                                refine hK.out _ _ (HWd.out.below fB) (fun hHeld => ?_)
                                clear hK K
                                refine norm_ (a' := ?_) ?_ ?_
                                rotate_left
                                · show Act.put _ (some 42) _ = _
                                  simp only [Act.put, List.setIfInBounds_toArray, List.set_cons_zero, List.set_cons_succ, i64_w, i32_w]
                                  rfl
                                exact norm_ (by first | (simp only [putAll, Act.put, List.setIfInBounds_toArray, List.set_cons_zero, List.set_cons_succ]; done) | (simp only [putAll, Act.put, List.setIfInBounds_toArray, List.set_cons_zero, List.set_cons_succ]; rfl)) (hJ2_4 (s40, v42, 0, .nilIface, 0) _ ⟨fB, r42⟩)
                              · skip
                                refine value_ (w1 := ?_) (v := ?_) (by rfl) rfl ?_ ?_
                                rotate_left 2
                                · go_simp
                                  constructor
                                  · rfl
                                  · rfl
                                have bA : Below wq.heap.size wq (wq.alloc (.cells #[.string (rComment value).f0, .string (rComment value).f1] 42)) := below_alloc (Below.refl _ _) _
                                have d45 : some wq.heap.size ≠ s40.ownBlock := fun e_ => Nat.lt_irrefl _ ((Kd.R_bound f40).1 _ e_.symm).2.2.1
                                have f40 := Kd.R_below f40 bA
                                have n45 : RecBlk (wq.alloc (.cells #[.string (rComment value).f0, .string (rComment value).f1] 42)) wq.heap.size (rComment value) := World.alloc_heap_new wq _
                                have fB := below_then fB fB.size bA
                                refine hK.out _ _ (HWd.out.below fB) (fun hHeld => ?_)
                                clear hK K
                                refine norm_ (a' := ?_) ?_ ?_
                                rotate_left
                                · show Act.put _ (some 45) _ = _
                                  simp only [Act.put, List.setIfInBounds_toArray, List.set_cons_zero, List.set_cons_succ, i64_w, i32_w]
                                  rfl
                                exact norm_ (by first | (simp only [putAll, Act.put, List.setIfInBounds_toArray, List.set_cons_zero, List.set_cons_succ]; done) | (simp only [putAll, Act.put, List.setIfInBounds_toArray, List.set_cons_zero, List.set_cons_succ]; rfl)) (hJ2_7 (s40, .nilIface, wq.heap.size, .nilIface, 0) _ ⟨fB, f40, n45, d45⟩)
                              · skip
                                refine value_ (w1 := ?_) (v := ?_) (by rfl) rfl ?_ ?_
                                rotate_left 2
                                · go_simp
                                  constructor
                                  · rfl
                                  · rfl
                                have bA : Below wq.heap.size wq (wq.alloc (.cells #[.string ⟨#[]⟩, .string ⟨#[]⟩, .int .u8 0, .int .i64 0, .int .i64 0, .int .i64 0, .int .i64 0, .int .i64 0, .bool false] 25)) := below_alloc (Below.refl _ _) _
                                have f40 := Kd.R_below f40 bA
                                have n14 : ZeroBlk (wq.alloc (.cells #[.string ⟨#[]⟩, .string ⟨#[]⟩, .int .u8 0, .int .i64 0, .int .i64 0, .int .i64 0, .int .i64 0, .int .i64 0, .bool false] 25)) wq.heap.size := World.alloc_heap_new wq _
                                have m14 := fB.size
                                have fB := below_then fB fB.size bA
                                refine hK.out _ _ (HWd.out.below fB) (fun hHeld => ?_)
                                clear hK K
                                refine norm_ (a' := ?_) ?_ ?_
                                rotate_left
                                · show Act.put _ (some 14) _ = _
                                  simp only [Act.put, List.setIfInBounds_toArray, List.set_cons_zero, List.set_cons_succ, i64_w, i32_w]
                                  rfl
                                exact norm_ (by first | (simp only [putAll, Act.put, List.setIfInBounds_toArray, List.set_cons_zero, List.set_cons_succ]; done) | (simp only [putAll, Act.put, List.setIfInBounds_toArray, List.set_cons_zero, List.set_cons_succ]; rfl)) (hJ2_13 (s40, .nilIface, 0, .nilIface, wq.heap.size) _ ⟨fB, f40, n14, m14⟩)
                          · skip
                            rintro ⟨s40, s42, b45, s46, b14⟩ wq ⟨fB, f45, f14, g14⟩
                            (try dsimp only at fB f45 f14 g14)
                            have hHeld : HdBlk wq w.heap.size h := HWd.out.below fB
                            refine norm_ (a' := ?_) ?_ ?_
                            rotate_left
                            · simp only [putAll, Act.put, List.setIfInBounds_toArray, List.set_cons_zero, List.set_cons_succ]
                              rfl
                            refine one_ (i := 2) (N := some 40) #[true, true, true, true, false, true, true, true, false, false, false, false, false, true, false, false] rfl rfl (by kernel_rfl) (by decide) (fun K hK => ?_)
                            refine value_ (w1 := ?_) (v := ?_) (by rfl) rfl ?_ ?_
                            rotate_left 2
                            · go_simp
                              constructor
                              · rfl
                              · rfl
                            have lt45 := f45.lt
                            have bA : Below wq.heap.size wq (wq.alloc (.cells #[] 42)) := below_alloc (Below.refl _ _) _
                            have f45 := f45.below bA
                            have f14 := f14.below bA
                            have n40 : OwnRecs (wq.alloc (.cells #[] 42)) wd.heap.size (.slice (some ⟨wq.heap.size, 0, none⟩) 0 0) [] := recs_own wq wd.heap.size [] fB.size (Nat.zero_le _)
                            have d45 : some b45 ≠ (Value.slice (some ⟨wq.heap.size, 0, none⟩) 0 0).ownBlock := fun e_ => Nat.lt_irrefl _ ((Option.some.inj e_ : b45 = wq.heap.size) ▸ lt45)
                            have fB := below_then fB fB.size bA
                            refine hK.out _ _ (HWd.out.below fB) (fun hHeld => ?_)
                            clear hK K
                            refine norm_ (a' := ?_) ?_ ?_
                            rotate_left
                            · show Act.put _ (some 40) _ = _
                              simp only [Act.put, List.setIfInBounds_toArray, List.set_cons_zero, List.set_cons_succ, i64_w, i32_w]
                              rfl
                            exact norm_ (by first | (simp only [putAll, Act.put, List.setIfInBounds_toArray, List.set_cons_zero, List.set_cons_succ]; done) | (simp only [putAll, Act.put, List.setIfInBounds_toArray, List.set_cons_zero, List.set_cons_succ]; rfl)) (hJ2_7_13 (.slice (some ⟨wq.heap.size, 0, none⟩) 0 0, .nilIface, b45, .nilIface, b14) _ ⟨fB, n40, f45, d45, f14, g14⟩)
                        · skip
                          rintro ⟨s40, s42, b45, s46, b14⟩ wq ⟨fB, f40, f14, g14⟩
                          (try dsimp only at fB f40 f14 g14)
                          have hHeld : HdBlk wq w.heap.size h := HWd.out.below fB
                          refine norm_ (a' := ?_) ?_ ?_
                          rotate_left
                          · simp only [putAll, Act.put, List.setIfInBounds_toArray, List.set_cons_zero, List.set_cons_succ]
                            rfl
                          refine two_ (i := 4) (j := 7) (Ni := some 42) (Nj := some 45) #[true, true, true, true, true, true, true, false, false, false, false, false, false, true, false, false] #[true, true, true, true, false, true, true, true, false, false, false, false, false, true, false, false] rfl rfl rfl rfl (by kernel_rfl) (by decide) (by decide) (fun K hK => ?_) (fun K hK => ?_)
                          · skip
                            refine append_recs_step (w0 := wd) (.tmp 40) (.tmp 41) s40 [] own A own.length c (by rfl) rfl rfl rfl f40 (C_old HR.out (below_then HBd.out HBd.out.size fB)) fB (by have := HLO.out; simp; omega) ?_
                            intro v42 w42 r42 B42 G42
                            rw [List.nil_append] at r42
                            have f14 := f14.grown f40 G42
                            have fB := B42
                            refine hK.out _ _ (HWd.out.below fB) (fun hHeld => ?_)
                            clear hK K
                            refine norm_ (a' := ?_) ?_ ?_
                            rotate_left
                            · show Act.put _ (some 42) _ = _
                              simp only [Act.put, List.setIfInBounds_toArray, List.set_cons_zero, List.set_cons_succ, i64_w, i32_w]
                              rfl
                            exact norm_ (by first | (simp only [putAll, Act.put, List.setIfInBounds_toArray, List.set_cons_zero, List.set_cons_succ]; done) | (simp only [putAll, Act.put, List.setIfInBounds_toArray, List.set_cons_zero, List.set_cons_succ]; rfl)) (hJ2_4_13 (s40, v42, 0, .nilIface, b14) _ ⟨fB, r42, f14, g14⟩)
                          · skip
                            refine value_ (w1 := ?_) (v := ?_) (by rfl) rfl ?_ ?_
                            rotate_left 2
                            · go_simp
                              constructor
                              · rfl
                              · rfl
                            have bA : Below wq.heap.size wq (wq.alloc (.cells #[.string (rComment value).f0, .string (rComment value).f1] 42)) := below_alloc (Below.refl _ _) _
                            have d45 : some wq.heap.size ≠ s40.ownBlock := fun e_ => Nat.lt_irrefl _ ((Kd.R_bound f40).1 _ e_.symm).2.2.1
                            have f40 := Kd.R_below f40 bA
                            have f14 := f14.below bA
                            have n45 : RecBlk (wq.alloc (.cells #[.string (rComment value).f0, .string (rComment value).f1] 42)) wq.heap.size (rComment value) := World.alloc_heap_new wq _
                            have fB := below_then fB fB.size bA
                            refine hK.out _ _ (HWd.out.below fB) (fun hHeld => ?_)
                            clear hK K
                            refine norm_ (a' := ?_) ?_ ?_
                            rotate_left
                            · show Act.put _ (some 45) _ = _
                              simp only [Act.put, List.setIfInBounds_toArray, List.set_cons_zero, List.set_cons_succ, i64_w, i32_w]
                              rfl
                            exact norm_ (by first | (simp only [putAll, Act.put, List.setIfInBounds_toArray, List.set_cons_zero, List.set_cons_succ]; done) | (simp only [putAll, Act.put, List.setIfInBounds_toArray, List.set_cons_zero, List.set_cons_succ]; rfl)) (hJ2_7_13 (s40, .nilIface, wq.heap.size, .nilIface, b14) _ ⟨fB, f40, n45, d45, f14, g14⟩)
                      · skip
                        rintro ⟨s40, s42, b45, s46, b14⟩ wq ⟨fB, f40, f45, d45⟩
                        (try dsimp only at fB f40 f45 d45)
                        have hHeld : HdBlk wq w.heap.size h := HWd.out.below fB
                        refine norm_ (a' := ?_) ?_ ?_
                        rotate_left
                        · simp only [putAll, Act.put, List.setIfInBounds_toArray, List.set_cons_zero, List.set_cons_succ]
                          rfl
                        refine two_ (i := 4) (j := 13) (Ni := some 42) (Nj := some 14) #[true, true, true, true, true, true, true, true, false, false, false, false, false, false, false, false] #[true, true, true, true, false, true, true, true, false, false, false, false, false, true, false, false] rfl rfl rfl rfl (by kernel_rfl) (by decide) (by decide) (fun K hK => ?_) (fun K hK => ?_)
                        · skip
                          refine append_recs_step (w0 := wd) (.tmp 40) (.tmp 41) s40 [] own A own.length c (by rfl) rfl rfl rfl f40 (C_old HR.out (below_then HBd.out HBd.out.size fB)) fB (by have := HLO.out; simp; omega) ?_
                          intro v42 w42 r42 B42 G42
                          rw [List.nil_append] at r42
                          have f45 := f45.grown G42 d45
                          have fB := B42
                          refine hK.out _ _ (HWd.out.below fB) (fun hHeld => ?_)
                          clear hK K
                          refine norm_ (a' := ?_) ?_ ?_
                          rotate_left
                          · show Act.put _ (some 42) _ = _
                            simp only [Act.put, List.setIfInBounds_toArray, List.set_cons_zero, List.set_cons_succ, i64_w, i32_w]
                            rfl
                          exact norm_ (by first | (simp only [putAll, Act.put, List.setIfInBounds_toArray, List.set_cons_zero, List.set_cons_succ]; done) | (simp only [putAll, Act.put, List.setIfInBounds_toArray, List.set_cons_zero, List.set_cons_succ]; rfl)) (hJ2_4_7 (s40, v42, b45, .nilIface, 0) _ ⟨fB, r42, f45⟩)
                        · skip
                          refine value_ (w1 := ?_) (v := ?_) (by rfl) rfl ?_ ?_
                          rotate_left 2
                          · go_simp
                            constructor
                            · rfl
                            · rfl
                          have bA : Below wq.heap.size wq (wq.alloc (.cells #[.string ⟨#[]⟩, .string ⟨#[]⟩, .int .u8 0, .int .i64 0, .int .i64 0, .int .i64 0, .int .i64 0, .int .i64 0, .bool false] 25)) := below_alloc (Below.refl _ _) _
                          have f40 := Kd.R_below f40 bA
                          have f45 := f45.below bA
                          have n14 : ZeroBlk (wq.alloc (.cells #[.string ⟨#[]⟩, .string ⟨#[]⟩, .int .u8 0, .int .i64 0, .int .i64 0, .int .i64 0, .int .i64 0, .int .i64 0, .bool false] 25)) wq.heap.size := World.alloc_heap_new wq _
                          have m14 := fB.size
                          have fB := below_then fB fB.size bA
                          refine hK.out _ _ (HWd.out.below fB) (fun hHeld => ?_)
                          clear hK K
                          refine norm_ (a' := ?_) ?_ ?_
                          rotate_left
                          · show Act.put _ (some 14) _ = _
                            simp only [Act.put, List.setIfInBounds_toArray, List.set_cons_zero, List.set_cons_succ, i64_w, i32_w]
                            rfl
                          exact norm_ (by first | (simp only [putAll, Act.put, List.setIfInBounds_toArray, List.set_cons_zero, List.set_cons_succ]; done) | (simp only [putAll, Act.put, List.setIfInBounds_toArray, List.set_cons_zero, List.set_cons_succ]; rfl)) (hJ2_7_13 (s40, .nilIface, b45, .nilIface, wq.heap.size) _ ⟨fB, f40, f45, d45, n14, m14⟩)
                    · skip
                      rintro ⟨s40, s42, b45, s46, b14⟩ wq ⟨fB, f42⟩
                      (try dsimp only at fB f42)
                      have hHeld : HdBlk wq w.heap.size h := HWd.out.below fB
                      refine norm_ (a' := ?_) ?_ ?_
                      rotate_left
                      · simp only [putAll, Act.put, List.setIfInBounds_toArray, List.set_cons_zero, List.set_cons_succ]
                        rfl
                      refine two_ (i := 7) (j := 13) (Ni := some 45) (Nj := some 14) #[true, true, true, true, true, true, true, true, false, false, false, false, false, false, false, false] #[true, true, true, true, true, true, true, false, false, false, false, false, false, true, false, false] rfl rfl rfl rfl (by kernel_rfl) (by decide) (by decide) (fun K hK => ?_) (fun K hK => ?_)
                      · skip
                        refine value_ (w1 := ?_) (v := ?_) (by rfl) rfl ?_ ?_
                        rotate_left 2
                        · go_simp
                          constructor
                          · rfl
                          · rfl
                        have bA : Below wq.heap.size wq (wq.alloc (.cells #[.string (rComment value).f0, .string (rComment value).f1] 42)) := below_alloc (Below.refl _ _) _
                        have f42 := Kd.R_below f42 bA
                        have n45 : RecBlk (wq.alloc (.cells #[.string (rComment value).f0, .string (rComment value).f1] 42)) wq.heap.size (rComment value) := World.alloc_heap_new wq _
                        have fB := below_then fB fB.size bA
                        refine hK.out _ _ (HWd.out.below fB) (fun hHeld => ?_)
                        clear hK K
                        refine norm_ (a' := ?_) ?_ ?_
                        rotate_left
                        · show Act.put _ (some 45) _ = _
                          simp only [Act.put, List.setIfInBounds_toArray, List.set_cons_zero, List.set_cons_succ, i64_w, i32_w]
                          rfl
                        exact norm_ (by first | (simp only [putAll, Act.put, List.setIfInBounds_toArray, List.set_cons_zero, List.set_cons_succ]; done) | (simp only [putAll, Act.put, List.setIfInBounds_toArray, List.set_cons_zero, List.set_cons_succ]; rfl)) (hJ2_4_7 (s40, s42, wq.heap.size, .nilIface, 0) _ ⟨fB, f42, n45⟩)
                      · skip
                        refine value_ (w1 := ?_) (v := ?_) (by rfl) rfl ?_ ?_
                        rotate_left 2
                        · go_simp
                          constructor
                          · rfl
                          · rfl
                        have bA : Below wq.heap.size wq (wq.alloc (.cells #[.string ⟨#[]⟩, .string ⟨#[]⟩, .int .u8 0, .int .i64 0, .int .i64 0, .int .i64 0, .int .i64 0, .int .i64 0, .bool false] 25)) := below_alloc (Below.refl _ _) _
                        have f42 := Kd.R_below f42 bA
                        have n14 : ZeroBlk (wq.alloc (.cells #[.string ⟨#[]⟩, .string ⟨#[]⟩, .int .u8 0, .int .i64 0, .int .i64 0, .int .i64 0, .int .i64 0, .int .i64 0, .bool false] 25)) wq.heap.size := World.alloc_heap_new wq _
                        have m14 := fB.size
                        have fB := below_then fB fB.size bA
                        refine hK.out _ _ (HWd.out.below fB) (fun hHeld => ?_)
                        clear hK K
                        refine norm_ (a' := ?_) ?_ ?_
                        rotate_left
                        · show Act.put _ (some 14) _ = _
                          simp only [Act.put, List.setIfInBounds_toArray, List.set_cons_zero, List.set_cons_succ, i64_w, i32_w]
                          rfl
                        exact norm_ (by first | (simp only [putAll, Act.put, List.setIfInBounds_toArray, List.set_cons_zero, List.set_cons_succ]; done) | (simp only [putAll, Act.put, List.setIfInBounds_toArray, List.set_cons_zero, List.set_cons_succ]; rfl)) (hJ2_4_13 (s40, s42, 0, .nilIface, wq.heap.size) _ ⟨fB, f42, n14, m14⟩)
                  · skip
                    rintro ⟨s40, s42, b45, s46, b14⟩ wq ⟨fB, f40, f45, d45, f14, g14⟩
                    (try dsimp only at fB f40 f45 d45 f14 g14)
                    have hHeld : HdBlk wq w.heap.size h := HWd.out.below fB
                    refine norm_ (a' := ?_) ?_ ?_
                    rotate_left
                    · simp only [putAll, Act.put, List.setIfInBounds_toArray, List.set_cons_zero, List.set_cons_succ]
                      rfl
                    refine one_ (i := 4) (N := some 42) #[true, true, true, true, true, true, true, true, false, false, false, false, false, true, false, false] rfl rfl (by kernel_rfl) (by decide) (fun K hK => ?_)
                    refine append_recs_step (w0 := wd) (.tmp 40) (.tmp 41) s40 [] own A own.length c (by rfl) rfl rfl rfl f40 (C_old HR.out (below_then HBd.out HBd.out.size fB)) fB (by have := HLO.out; simp; omega) ?_
                    intro v42 w42 r42 B42 G42
                    rw [List.nil_append] at r42
                    have f45 := f45.grown G42 d45
                    have f14 := f14.grown f40 G42
                    have fB := B42
                    refine hK.out _ _ (HWd.out.below fB) (fun hHeld => ?_)
                    clear hK K
                    refine norm_ (a' := ?_) ?_ ?_
                    rotate_left
                    · show Act.put _ (some 42) _ = _
                      simp only [Act.put, List.setIfInBounds_toArray, List.set_cons_zero, List.set_cons_succ, i64_w, i32_w]
                      rfl
                    exact norm_ (by first | (simp only [putAll, Act.put, List.setIfInBounds_toArray, List.set_cons_zero, List.set_cons_succ]; done) | (simp only [putAll, Act.put, List.setIfInBounds_toArray, List.set_cons_zero, List.set_cons_succ]; rfl)) (hJ2_4_7_13 (s40, v42, b45, .nilIface, b14) _ ⟨fB, r42, f45, f14, g14⟩)
                · skip
                  rintro ⟨s40, s42, b45, s46, b14⟩ wq ⟨fB, f42, f14, g14⟩
                  (try dsimp only at fB f42 f14 g14)
                  have hHeld : HdBlk wq w.heap.size h := HWd.out.below fB
                  refine norm_ (a' := ?_) ?_ ?_
                  rotate_left
                  · simp only [putAll, Act.put, List.setIfInBounds_toArray, List.set_cons_zero, List.set_cons_succ]
                    rfl
                  refine one_ (i := 7) (N := some 45) #[true, true, true, true, true, true, true, true, false, false, false, false, false, true, false, false] rfl rfl (by kernel_rfl) (by decide) (fun K hK => ?_)
                  refine value_ (w1 := ?_) (v := ?_) (by rfl) rfl ?_ ?_
                  rotate_left 2
                  · go_simp
                    constructor
                    · rfl
                    · rfl
                  have bA : Below wq.heap.size wq (wq.alloc (.cells #[.string (rComment value).f0, .string (rComment value).f1] 42)) := below_alloc (Below.refl _ _) _
                  have f42 := Kd.R_below f42 bA
                  have f14 := f14.below bA
                  have n45 : RecBlk (wq.alloc (.cells #[.string (rComment value).f0, .string (rComment value).f1] 42)) wq.heap.size (rComment value) := World.alloc_heap_new wq _
                  have fB := below_then fB fB.size bA
                  refine hK.out _ _ (HWd.out.below fB) (fun hHeld => ?_)
                  clear hK K
                  refine norm_ (a' := ?_) ?_ ?_
                  rotate_left
                  · show Act.put _ (some 45) _ = _
                    simp only [Act.put, List.setIfInBounds_toArray, List.set_cons_zero, List.set_cons_succ, i64_w, i32_w]
                    rfl
                  exact norm_ (by first | (simp only [putAll, Act.put, List.setIfInBounds_toArray, List.set_cons_zero, List.set_cons_succ]; done) | (simp only [putAll, Act.put, List.setIfInBounds_toArray, List.set_cons_zero, List.set_cons_succ]; rfl)) (hJ2_4_7_13 (s40, s42, wq.heap.size, .nilIface, b14) _ ⟨fB, f42, n45, f14, g14⟩)
              · skip
                rintro ⟨s40, s42, b45, s46, b14⟩ wq ⟨fB, f42, f45⟩
                (try dsimp only at fB f42 f45)
                have hHeld : HdBlk wq w.heap.size h := HWd.out.below fB
                refine norm_ (a' := ?_) ?_ ?_
                rotate_left
                · simp only [putAll, Act.put, List.setIfInBounds_toArray, List.set_cons_zero, List.set_cons_succ]
                  rfl
                refine two_ (i := 8) (j := 13) (Ni := some 46) (Nj := some 14) #[true, true, true, true, true, true, true, true, true, false, false, false, false, false, false, false] #[true, true, true, true, true, true, true, true, false, false, false, false, false, true, false, false] rfl rfl rfl rfl (by kernel_rfl) (by decide) (by decide) (fun K hK => ?_) (fun K hK => ?_)
                · skip
                  refine append_recs_step (w0 := wd) (.tmp 42) (.tmp 45) s42 own [rComment value] (some ⟨b45, 0, none⟩) 1 1 (by rfl) rfl rfl rfl f42 f45.reads fB (by have := HLO.out; simp; omega) ?_
                  intro v46 w46 r46 B46 G46
                  have fB := B46
                  refine hK.out _ _ (HWd.out.below fB) (fun hHeld => ?_)
                  clear hK K
                  refine norm_ (a' := ?_) ?_ ?_
                  rotate_left
                  · show Act.put _ (some 46) _ = _
                    simp only [Act.put, List.setIfInBounds_toArray, List.set_cons_zero, List.set_cons_succ, i64_w, i32_w]
                    rfl
                  exact norm_ (by first | (simp only [putAll, Act.put, List.setIfInBounds_toArray, List.set_cons_zero, List.set_cons_succ]; done) | (simp only [putAll, Act.put, List.setIfInBounds_toArray, List.set_cons_zero, List.set_cons_succ]; rfl)) (hJ2_4_7_8 (s40, s42, b45, v46, 0) _ ⟨fB, r46⟩)
                · skip
                  refine value_ (w1 := ?_) (v := ?_) (by rfl) rfl ?_ ?_
                  rotate_left 2
                  · go_simp
                    constructor
                    · rfl
                    · rfl
                  have bA : Below wq.heap.size wq (wq.alloc (.cells #[.string ⟨#[]⟩, .string ⟨#[]⟩, .int .u8 0, .int .i64 0, .int .i64 0, .int .i64 0, .int .i64 0, .int .i64 0, .bool false] 25)) := below_alloc (Below.refl _ _) _
                  have f42 := Kd.R_below f42 bA
                  have f45 := f45.below bA
                  have n14 : ZeroBlk (wq.alloc (.cells #[.string ⟨#[]⟩, .string ⟨#[]⟩, .int .u8 0, .int .i64 0, .int .i64 0, .int .i64 0, .int .i64 0, .int .i64 0, .bool false] 25)) wq.heap.size := World.alloc_heap_new wq _
                  have m14 := fB.size
                  have fB := below_then fB fB.size bA
                  refine hK.out _ _ (HWd.out.below fB) (fun hHeld => ?_)
                  clear hK K
                  refine norm_ (a' := ?_) ?_ ?_
                  rotate_left
                  · show Act.put _ (some 14) _ = _
                    simp only [Act.put, List.setIfInBounds_toArray, List.set_cons_zero, List.set_cons_succ, i64_w, i32_w]
                    rfl
                  exact norm_ (by first | (simp only [putAll, Act.put, List.setIfInBounds_toArray, List.set_cons_zero, List.set_cons_succ]; done) | (simp only [putAll, Act.put, List.setIfInBounds_toArray, List.set_cons_zero, List.set_cons_succ]; rfl)) (hJ2_4_7_13 (s40, s42, b45, .nilIface, wq.heap.size) _ ⟨fB, f42, f45, n14, m14⟩)
            · skip
              rintro ⟨s40, s42, b45, s46, b14⟩ wq ⟨fB, f42, f45, f14, g14⟩
              (try dsimp only at fB f42 f45 f14 g14)
              have hHeld : HdBlk wq w.heap.size h := HWd.out.below fB
              refine norm_ (a' := ?_) ?_ ?_
              rotate_left
              · simp only [putAll, Act.put, List.setIfInBounds_toArray, List.set_cons_zero, List.set_cons_succ]
                rfl
              refine one_ (i := 8) (N := some 46) #[true, true, true, true, true, true, true, true, true, false, false, false, false, true, false, false] rfl rfl (by kernel_rfl) (by decide) (fun K hK => ?_)
              refine append_recs_step (w0 := wd) (.tmp 42) (.tmp 45) s42 own [rComment value] (some ⟨b45, 0, none⟩) 1 1 (by rfl) rfl rfl rfl f42 f45.reads fB (by have := HLO.out; simp; omega) ?_
              intro v46 w46 r46 B46 G46
              have f14 := f14.grown f42 G46
              have fB := B46
              refine hK.out _ _ (HWd.out.below fB) (fun hHeld => ?_)
              clear hK K
              refine norm_ (a' := ?_) ?_ ?_
              rotate_left
              · show Act.put _ (some 46) _ = _
                simp only [Act.put, List.setIfInBounds_toArray, List.set_cons_zero, List.set_cons_succ, i64_w, i32_w]
                rfl
              exact norm_ (by first | (simp only [putAll, Act.put, List.setIfInBounds_toArray, List.set_cons_zero, List.set_cons_succ]; done) | (simp only [putAll, Act.put, List.setIfInBounds_toArray, List.set_cons_zero, List.set_cons_succ]; rfl)) (hJ2_4_7_8_13 (s40, s42, b45, v46, b14) _ ⟨fB, r46, f14, g14⟩)
          · skip
            rintro ⟨s40, s42, b45, s46, b14⟩ wq ⟨fB, f46⟩
            (try dsimp only at fB f46)
            have hHeld : HdBlk wq w.heap.size h := HWd.out.below fB
            refine norm_ (a' := ?_) ?_ ?_
            rotate_left
            · simp only [putAll, Act.put, List.setIfInBounds_toArray, List.set_cons_zero, List.set_cons_succ]
              rfl
            refine two_ (i := 9) (j := 13) (Ni := some 47) (Nj := some 14) #[true, true, true, true, true, true, true, true, true, true, false, false, false, false, false, false] #[true, true, true, true, true, true, true, true, true, false, false, false, false, true, false, false] rfl rfl rfl rfl (by kernel_rfl) (by decide) (by decide) (fun K hK => ?_) (fun K hK => ?_)
            · skip
              obtain ⟨A46, c46, e46, hl46, hC46⟩ := Kd.R_reads f46
              subst e46
              refine goes_ Tryd.func11 (by kernel_rfl) rfl #[.pointer (some ⟨w.heap.size + 1, 0, none⟩), .agg #[.string h.name, .string h.link, .int .u8 h.kind, .int .i64 h.mode, .int .i64 h.uid, .int .i64 h.gid, .int .i64 h.time, .int .i64 h.size, .bool h.gnu], .slice A46 (own ++ [rComment value]).length c46] (by rfl) rfl rfl (by simp only [List.map_toArray, List.map_cons, List.map_nil]; rfl) ?_
              with_reducible refine (apply_callN (some ⟨w.heap.size + 1, 0, none⟩) g h A46 _ c46 (own ++ [rComment value]) _ (HSd.out.below fB).reads hC46 (by have := HLO.out; simp; omega) HLG.out (HE.out.keep (below_then HBd.out HBd.out.size fB)) HS.out.1 (HS.out.2.append (small_one HVAL.out)) o1 HO2.out).mono ?_
              rintro e w47 ⟨rfl, hb47⟩
              refine ⟨_, rfl, ?_⟩
              have fB := below_then fB fB.size hb47
              refine hK.out _ _ (HWd.out.below fB) (fun hHeld => ?_)
              clear hK K
              refine norm_ (a' := ?_) ?_ ?_
              rotate_left
              · show Act.put _ (some 47) _ = _
                simp only [Act.put, List.setIfInBounds_toArray, List.set_cons_zero, List.set_cons_succ, i64_w, i32_w]
                rfl
              refine pure_ (i := 10) (N := some 37) (v := ?_) (a' := ?_) #[true, true, true, true, true, true, true, true, true, true, true, false, false, false, false, false] rfl rfl (by kernel_rfl) (fun _ _ _ h => h) (Or.inl ⟨by rfl, ?_⟩) ?_ ?_
              rotate_left
              · intro w'
                go_simp
                with_reducible rfl
              rotate_left
              · simp only [Act.put, List.setIfInBounds_toArray, List.set_cons_zero, List.set_cons_succ, i64_w, i32_w]
                rfl
              refine pure_ (i := 11) (N := some 48) (v := ?_) (a' := ?_) #[true, true, true, true, true, true, true, true, true, true, true, true, false, false, false, false] rfl rfl (by kernel_rfl) (fun _ _ _ h => h) (Or.inl ⟨by rfl, ?_⟩) ?_ ?_
              rotate_left
              · intro w'
                go_simp
                with_reducible rfl
              rotate_left
              · simp only [Act.put, List.setIfInBounds_toArray, List.set_cons_zero, List.set_cons_succ, i64_w, i32_w]
                rfl
              refine pure_ (i := 12) (N := some 49) (v := ?_) (a' := ?_) #[true, true, true, true, true, true, true, true, true, true, true, true, true, false, false, false] rfl rfl (by kernel_rfl) (fun _ _ _ h => h) (Or.inl ⟨by rfl, ?_⟩) ?_ ?_
              rotate_left
              · intro w'
                go_simp
                with_reducible rfl
              rotate_left
              · simp only [Act.put, List.setIfInBounds_toArray, List.set_cons_zero, List.set_cons_succ, i64_w, i32_w]
                rfl
              exact norm_ (by first | (simp only [putAll, Act.put, List.setIfInBounds_toArray, List.set_cons_zero, List.set_cons_succ]; done) | (simp only [putAll, Act.put, List.setIfInBounds_toArray, List.set_cons_zero, List.set_cons_succ]; rfl)) (hJ2_4_7_8_9 (s40, s42, b45, .slice A46 (own ++ [rComment value]).length c46, 0) _ fB)
            · skip
              refine value_ (w1 := ?_) (v := ?_) (by rfl) rfl ?_ ?_
              rotate_left 2
              · go_simp
                constructor
                · rfl
                · rfl
              have bA : Below wq.heap.size wq (wq.alloc (.cells #[.string ⟨#[]⟩, .string ⟨#[]⟩, .int .u8 0, .int .i64 0, .int .i64 0, .int .i64 0, .int .i64 0, .int .i64 0, .bool false] 25)) := below_alloc (Below.refl _ _) _
              have f46 := Kd.R_below f46 bA
              have n14 : ZeroBlk (wq.alloc (.cells #[.string ⟨#[]⟩, .string ⟨#[]⟩, .int .u8 0, .int .i64 0, .int .i64 0, .int .i64 0, .int .i64 0, .int .i64 0, .bool false] 25)) wq.heap.size := World.alloc_heap_new wq _
              have m14 := fB.size
              have fB := below_then fB fB.size bA
              refine hK.out _ _ (HWd.out.below fB) (fun hHeld => ?_)
              clear hK K
              refine norm_ (a' := ?_) ?_ ?_
              rotate_left
              · show Act.put _ (some 14) _ = _
                simp only [Act.put, List.setIfInBounds_toArray, List.set_cons_zero, List.set_cons_succ, i64_w, i32_w]
                rfl
              exact norm_ (by first | (simp only [putAll, Act.put, List.setIfInBounds_toArray, List.set_cons_zero, List.set_cons_succ]; done) | (simp only [putAll, Act.put, List.setIfInBounds_toArray, List.set_cons_zero, List.set_cons_succ]; rfl)) (hJ2_4_7_8_13 (s40, s42, b45, s46, wq.heap.size) _ ⟨fB, f46, n14, m14⟩)
        · skip
          rintro ⟨s40, s42, b45, s46, b14⟩ wq ⟨fB, f46, f14, g14⟩
          (try dsimp only at fB f46 f14 g14)
          have hHeld : HdBlk wq w.heap.size h := HWd.out.below fB
          refine norm_ (a' := ?_) ?_ ?_
          rotate_left
          · simp only [putAll, Act.put, List.setIfInBounds_toArray, List.set_cons_zero, List.set_cons_succ]
            rfl
          refine one_ (i := 9) (N := some 47) #[true, true, true, true, true, true, true, true, true, true, false, false, false, true, false, false] rfl rfl (by kernel_rfl) (by decide) (fun K hK => ?_)
          obtain ⟨A46, c46, e46, hl46, hC46⟩ := Kd.R_reads f46
          subst e46
          refine goes_ Tryd.func11 (by kernel_rfl) rfl #[.pointer (some ⟨w.heap.size + 1, 0, none⟩), .agg #[.string h.name, .string h.link, .int .u8 h.kind, .int .i64 h.mode, .int .i64 h.uid, .int .i64 h.gid, .int .i64 h.time, .int .i64 h.size, .bool h.gnu], .slice A46 (own ++ [rComment value]).length c46] (by rfl) rfl rfl (by simp only [List.map_toArray, List.map_cons, List.map_nil]; rfl) ?_
          with_reducible refine (apply_callN (some ⟨w.heap.size + 1, 0, none⟩) g h A46 _ c46 (own ++ [rComment value]) _ (HSd.out.below fB).reads hC46 (by have := HLO.out; simp; omega) HLG.out (HE.out.keep (below_then HBd.out HBd.out.size fB)) HS.out.1 (HS.out.2.append (small_one HVAL.out)) o1 HO2.out).mono ?_
          rintro e w47 ⟨rfl, hb47⟩
          refine ⟨_, rfl, ?_⟩
          have f14 := f14.below hb47
          have fB := below_then fB fB.size hb47
          refine hK.out _ _ (HWd.out.below fB) (fun hHeld => ?_)
          clear hK K
          refine norm_ (a' := ?_) ?_ ?_
          rotate_left
          · show Act.put _ (some 47) _ = _
            simp only [Act.put, List.setIfInBounds_toArray, List.set_cons_zero, List.set_cons_succ, i64_w, i32_w]
            rfl
          refine pure_ (i := 10) (N := some 37) (v := ?_) (a' := ?_) #[true, true, true, true, true, true, true, true, true, true, true, false, false, true, false, false] rfl rfl (by kernel_rfl) (fun _ _ _ h => h) (Or.inl ⟨by rfl, ?_⟩) ?_ ?_
          rotate_left
          · intro w'
            go_simp
            with_reducible rfl
          rotate_left
          · simp only [Act.put, List.setIfInBounds_toArray, List.set_cons_zero, List.set_cons_succ, i64_w, i32_w]
            rfl
          refine pure_ (i := 11) (N := some 48) (v := ?_) (a' := ?_) #[true, true, true, true, true, true, true, true, true, true, true, true, false, true, false, false] rfl rfl (by kernel_rfl) (fun _ _ _ h => h) (Or.inl ⟨by rfl, ?_⟩) ?_ ?_
          rotate_left
          · intro w'
            go_simp
            with_reducible rfl
          rotate_left
          · simp only [Act.put, List.setIfInBounds_toArray, List.set_cons_zero, List.set_cons_succ, i64_w, i32_w]
            rfl
          refine pure_ (i := 12) (N := some 49) (v := ?_) (a' := ?_) #[true, true, true, true, true, true, true, true, true, true, true, true, true, true, false, false] rfl rfl (by kernel_rfl) (fun _ _ _ h => h) (Or.inl ⟨by rfl, ?_⟩) ?_ ?_
          rotate_left
          · intro w'
            go_simp
            with_reducible rfl
          rotate_left
          · simp only [Act.put, List.setIfInBounds_toArray, List.set_cons_zero, List.set_cons_succ, i64_w, i32_w]
            rfl
          exact norm_ (by first | (simp only [putAll, Act.put, List.setIfInBounds_toArray, List.set_cons_zero, List.set_cons_succ]; done) | (simp only [putAll, Act.put, List.setIfInBounds_toArray, List.set_cons_zero, List.set_cons_succ]; rfl)) (hJ2_4_7_8_9_13 (s40, s42, b45, .slice A46 (own ++ [rComment value]).length c46, b14) _ ⟨fB, f14, g14⟩)
      · skip
        rintro ⟨s40, s42, b45, s46, b14⟩ wq fB
        (try dsimp only at fB)
        have hHeld : HdBlk wq w.heap.size h := HWd.out.below fB
        refine norm_ (a' := ?_) ?_ ?_
        rotate_left
        · simp only [putAll, Act.put, List.setIfInBounds_toArray, List.set_cons_zero, List.set_cons_succ]
          rfl
        refine one_ (i := 13) (N := some 14) #[true, true, true, true, true, true, true, true, true, true, true, true, true, true, false, false] rfl rfl (by kernel_rfl) (by decide) (fun K hK => ?_)
        refine value_ (w1 := ?_) (v := ?_) (by rfl) rfl ?_ ?_
        rotate_left 2
        · go_simp
          constructor
          · rfl
          · rfl
        have bA : Below wq.heap.size wq (wq.alloc (.cells #[.string ⟨#[]⟩, .string ⟨#[]⟩, .int .u8 0, .int .i64 0, .int .i64 0, .int .i64 0, .int .i64 0, .int .i64 0, .bool false] 25)) := below_alloc (Below.refl _ _) _
        have n14 : ZeroBlk (wq.alloc (.cells #[.string ⟨#[]⟩, .string ⟨#[]⟩, .int .u8 0, .int .i64 0, .int .i64 0, .int .i64 0, .int .i64 0, .int .i64 0, .bool false] 25)) wq.heap.size := World.alloc_heap_new wq _
        have m14 := fB.size
        have fB := below_then fB fB.size bA
        refine hK.out _ _ (HWd.out.below fB) (fun hHeld => ?_)
        clear hK K
        refine norm_ (a' := ?_) ?_ ?_
        rotate_left
        · show Act.put _ (some 14) _ = _
          simp only [Act.put, List.setIfInBounds_toArray, List.set_cons_zero, List.set_cons_succ, i64_w, i32_w]
          rfl
        exact norm_ (by first | (simp only [putAll, Act.put, List.setIfInBounds_toArray, List.set_cons_zero, List.set_cons_succ]; done) | (simp only [putAll, Act.put, List.setIfInBounds_toArray, List.set_cons_zero, List.set_cons_succ]; rfl)) (hJ2_4_7_8_9_13 (s40, s42, b45, s46, wq.heap.size) _ ⟨fB, n14, m14⟩)
    rintro ⟨s40, s42, b45, s46, b14⟩ wq ⟨fB, f14, g14⟩
    (try dsimp only at fB f14 g14)
    have hHeld : HdBlk wq w.heap.size h := HWd.out.below fB
    refine norm_ (a' := ?_) ?_ ?_
    rotate_left
    · simp only [putAll, Act.put, List.setIfInBounds_toArray, List.set_cons_zero, List.set_cons_succ]
      rfl
    refine last_ (i := 14) (N := none) #[true, true, true, true, true, true, true, true, true, true, true, true, true, true, true, false] rfl rfl (by kernel_rfl) (by decide) (fun K hK => ?_)
    obtain ⟨z0, y0⟩ := blk_at f14 0 rfl
    obtain ⟨z1, y1⟩ := blk_at f14 1 rfl
    obtain ⟨z2, y2⟩ := blk_at f14 2 rfl
    obtain ⟨z3, y3⟩ := blk_at f14 3 rfl
    obtain ⟨z4, y4⟩ := blk_at f14 4 rfl
    obtain ⟨z5, y5⟩ := blk_at f14 5 rfl
    obtain ⟨z6, y6⟩ := blk_at f14 6 rfl
    obtain ⟨z7, y7⟩ := blk_at f14 7 rfl
    obtain ⟨z8, y8⟩ := blk_at f14 8 rfl
    refine skip_ (w1 := ?_) (by rfl) rfl ?_ ?_
    rotate_left
    · go_simp
      rfl
    refine hK.out _ _ ?_
    clear hK K
    refine pure_ (i := 15) (N := some 15) (v := ?_) (a' := ?_) #[true, true, true, true, true, true, true, true, true, true, true, true, true, true, true, true] rfl rfl (by kernel_rfl) (fun _ _ _ h => h) (Or.inl ⟨by rfl, ?_⟩) ?_ ?_
    rotate_left
    · intro w'
      go_simp
      with_reducible rfl
    rotate_left
    · simp only [Act.put, List.setIfInBounds_toArray, List.set_cons_zero, List.set_cons_succ, i64_w, i32_w]
      rfl
    refine done_ (by kernel_rfl) ?_
    obtain ⟨hX6, hB6⟩ := hd_put (w := wd) (hdOf o1) fB f14 g14
    have hne6 := Aside0.mk (show w2.heap.size < wd.heap.size from HXd.out.lt)
    have hg6 := Aside0.mk g14
    clear f14 g14 fB z0 z1 z2 z3 z4 z5 z6 z7 z8 y0 y1 y2 y3 y4 y5 y6 y7 y8 hHeld
    generalize (((((((((wq.setCell ⟨b14, 0, none⟩ (.string (hdOf o1).name)).setCell ⟨b14, 1, none⟩ (.string (hdOf o1).link)).setCell ⟨b14, 2, none⟩ (.int .u8 (hdOf o1).kind)).setCell ⟨b14, 3, none⟩ (.int .i64 (hdOf o1).mode)).setCell ⟨b14, 4, none⟩ (.int .i64 (hdOf o1).uid)).setCell ⟨b14, 5, none⟩ (.int .i64 (hdOf o1).gid)).setCell ⟨b14, 6, none⟩ (.int .i64 (hdOf o1).time)).setCell ⟨b14, 7, none⟩ (.int .i64 (hdOf o1).size)).setCell ⟨b14, 8, none⟩ (.bool (hdOf o1).gnu)) = w6 at hX6 hB6 ⊢
    have HX6 := Aside0.mk hX6
    have HXa := Aside0.mk (HXd.out.below hB6)
    have HW6 := Aside0.mk (HWd.out.below hB6)
    have HS6 := Aside0.mk (HSd.out.below hB6)
    have HB6 := Aside0.mk (below_then HBd.out HBd.out.size hB6)
    clear hX6 hB6 HXd HWd HSd HBd
    go_upto_region 8 with (fail)
    obtain ⟨Y, hY⟩ : ∃ Y, Obj.cells #[.string ⟨#[112, 97, 116, 104]⟩, .string ⟨#[]⟩, .string ⟨#[108, 105, 110, 107, 112, 97, 116, 104]⟩, .string ⟨#[]⟩, .string ⟨#[117, 105, 100]⟩, .string ⟨#[]⟩, .string ⟨#[103, 105, 100]⟩, .string ⟨#[]⟩, .string ⟨#[109, 116, 105, 109, 101]⟩, .string ⟨#[]⟩, .string ⟨#[115, 105, 122, 101]⟩, .string ⟨#[]⟩] 42 = Y := ⟨_, rfl⟩
    have bD := below_drew1 (below_alloc (Below.refl w6.heap.size w6) Y)
    have HBd := Aside0.mk (below_then HB6.out HB6.out.size bD)
    have HWd := Aside0.mk (HW6.out.below bD)
    have HSd := Aside0.mk (HS6.out.below bD)
    have HXc := Aside0.mk (HX6.out.below bD)
    have HXd := Aside0.mk (HXa.out.below bD)
    have HHID := Aside0.mk (Kd.C_below (show Kd.C k42 (w6.alloc Y) (some ⟨w6.heap.size, 0, none⟩) 6 hiddenL by rw [← hY]; exact hidden_reads w6) (below_drew1 (Below.refl _ _)))
    have HWd0 := HWd.out
    try rw [hY]
    clear hY HS6 HW6 HB6 bD HX6 HXa
    refine start_ (n := 14) (S := fun w' => HdBlk w' w.heap.size h) (ds := [12]) #[false, false, false, false, false, false, false, false, false, false, false, false, false, false] (by kernel_rfl) rfl rfl (HWd0) (fun hHeld => ?_)
    have fB := Below.refl (w6.alloc Y).drew.heap.size (w6.alloc Y).drew
    clear HWd0
    generalize (w6.alloc Y).drew = wd at fB HBd HWd HSd HXc HXd HHID hHeld ⊢
    refine pure_ (i := 0) (N := some 58) (v := ?_) (a' := ?_) #[true, false, false, false, false, false, false, false, false, false, false, false, false, false] rfl rfl (by kernel_rfl) (fun _ _ _ h => h) (Or.inl ⟨by rfl, ?_⟩) ?_ ?_
    rotate_left
    · intro w'
      go_simp
      with_reducible rfl
    rotate_left
    · simp only [Act.put, List.setIfInBounds_toArray, List.set_cons_zero, List.set_cons_succ, i64_w, i32_w]
      rfl
    refine pure_ (i := 3) (N := some 61) (v := ?_) (a' := ?_) #[true, false, false, true, false, false, false, false, false, false, false, false, false, false] rfl rfl (by kernel_rfl) (fun _ _ _ h => h) (Or.inl ⟨by rfl, ?_⟩) ?_ ?_
    rotate_left
    · intro w'
      go_simp
      with_reducible rfl
    rotate_left
    · simp only [Act.put, List.setIfInBounds_toArray, List.set_cons_zero, List.set_cons_succ, i64_w, i32_w]
      rfl
    refine pure_ (i := 5) (N := some 63) (v := ?_) (a' := ?_) #[true, false, false, true, false, true, false, false, false, false, false, false, false, false] rfl rfl (by kernel_rfl) (fun _ _ _ h => h) (Or.inl ⟨by rfl, ?_⟩) ?_ ?_
    rotate_left
    · intro w'
      go_simp
      with_reducible rfl
    rotate_left
    · simp only [Act.put, List.setIfInBounds_toArray, List.set_cons_zero, List.set_cons_succ, i64_w, i32_w]
      rfl
    refine take_ (i := 1) (N := some 59) (v := ?_) (a' := ?_) #[true, true, false, true, false, true, false, false, false, false, false, false, false, false] rfl rfl (by kernel_rfl) (fun _ _ _ h => h) (Or.inl ⟨by rfl, ?_⟩) hHeld ?_ ?_
    rotate_left
    · intro w' s0
      obtain ⟨q0, q1, q2, q3, q4, q5, q6, q7, q8⟩ := HdBlk.at s0
      go_simp
      with_reducible rfl
    rotate_left
    · simp only [Act.put, List.setIfInBounds_toArray, List.set_cons_zero, List.set_cons_succ, i64_w, i32_w]
      rfl
    refine join_ (σ := Value × Value × Nat × Value × Nat) 2 #[true, true, true, true, true, true, true, true, true, true, true, true, false, false] (fun s => [(60, s.1), (62, s.2.1), (64, s.2.2.2.1), (65, .tuple #[.agg #[.string (hdOf o3).name, .string (hdOf o3).link, .int .u8 (hdOf o3).kind, .int .i64 (hdOf o3).mode, .int .i64 (hdOf o3).uid, .int .i64 (hdOf o3).gid, .int .i64 (hdOf o3).time, .int .i64 (hdOf o3).size, .bool (hdOf o3).gnu], .int .i64 (errOf o3)]), (57, .tuple #[.agg #[.string (hdOf o3).name, .string (hdOf o3).link, .int .u8 (hdOf o3).kind, .int .i64 (hdOf o3).mode, .int .i64 (hdOf o3).uid, .int .i64 (hdOf o3).gid, .int .i64 (hdOf o3).time, .int .i64 (hdOf o3).size, .bool (hdOf o3).gnu], .int .i64 (errOf o3)]), (66, .agg #[.string (hdOf o3).name, .string (hdOf o3).link, .int .u8 (hdOf o3).kind, .int .i64 (hdOf o3).mode, .int .i64 (hdOf o3).uid, .int .i64 (hdOf o3).gid, .int .i64 (hdOf o3).time, .int .i64 (hdOf o3).size, .bool (hdOf o3).gnu]), (67, .int .i64 (errOf o3)), (17, .pointer (some ⟨s.2.2.2.2, 0, none⟩))]) (fun s w' => Below wd.heap.size wd w' ∧ ZeroBlk w' s.2.2.2.2 ∧ wd.heap.size ≤ s.2.2.2.2) ?_ ?_
    rotate_left
    · intro hJ2_4_6_7_11
      refine join_ (σ := Value × Value × Nat × Value × Nat) 3 #[true, true, true, true, true, true, true, true, true, true, true, false, false, false] (fun s => [(60, s.1), (62, s.2.1), (64, s.2.2.2.1), (65, .tuple #[.agg #[.string (hdOf o3).name, .string (hdOf o3).link, .int .u8 (hdOf o3).kind, .int .i64 (hdOf o3).mode, .int .i64 (hdOf o3).uid, .int .i64 (hdOf o3).gid, .int .i64 (hdOf o3).time, .int .i64 (hdOf o3).size, .bool (hdOf o3).gnu], .int .i64 (errOf o3)]), (57, .tuple #[.agg #[.string (hdOf o3).name, .string (hdOf o3).link, .int .u8 (hdOf o3).kind, .int .i64 (hdOf o3).mode, .int .i64 (hdOf o3).uid, .int .i64 (hdOf o3).gid, .int .i64 (hdOf o3).time, .int .i64 (hdOf o3).size, .bool (hdOf o3).gnu], .int .i64 (errOf o3)]), (66, .agg #[.string (hdOf o3).name, .string (hdOf o3).link, .int .u8 (hdOf o3).kind, .int .i64 (hdOf o3).mode, .int .i64 (hdOf o3).uid, .int .i64 (hdOf o3).gid, .int .i64 (hdOf o3).time, .int .i64 (hdOf o3).size, .bool (hdOf o3).gnu]), (67, .int .i64 (errOf o3))]) (fun s w' => Below wd.heap.size wd w') ?_ ?_
      rotate_left
      · intro hJ2_4_6_7
        refine join_ (σ := Value × Value × Nat × Value × Nat) 6 #[true, true, true, true, true, true, true, false, false, false, false, true, false, false] (fun s => [(60, s.1), (62, s.2.1), (64, s.2.2.2.1), (17, .pointer (some ⟨s.2.2.2.2, 0, none⟩))]) (fun s w' => Below wd.heap.size wd w' ∧ OwnRecs w' wd.heap.size s.2.2.2.1 (own ++ hiddenL) ∧ ZeroBlk w' s.2.2.2.2 ∧ wd.heap.size ≤ s.2.2.2.2) ?_ ?_
        rotate_left
        · intro hJ2_4_6_11
          refine join_ (σ := Value × Value × Nat × Value × Nat) 7 #[true, true, true, true, true, true, true, false, false, false, false, false, false, false] (fun s => [(60, s.1), (62, s.2.1), (64, s.2.2.2.1)]) (fun s w' => Below wd.heap.size wd w' ∧ OwnRecs w' wd.heap.size s.2.2.2.1 (own ++ hiddenL)) ?_ ?_
          rotate_left
          · intro hJ2_4_6
            refine join_ (σ := Value × Value × Nat × Value × Nat) 7 #[true, true, true, true, true, true, false, false, false, false, false, true, false, false] (fun s => [(60, s.1), (62, s.2.1), (17, .pointer (some ⟨s.2.2.2.2, 0, none⟩))]) (fun s w' => Below wd.heap.size wd w' ∧ OwnRecs w' wd.heap.size s.2.1 own ∧ ZeroBlk w' s.2.2.2.2 ∧ wd.heap.size ≤ s.2.2.2.2) ?_ ?_
            rotate_left
            · intro hJ2_4_11
              refine join_ (σ := Value × Value × Nat × Value × Nat) 8 #[true, true, true, true, true, true, false, false, false, false, false, false, false, false] (fun s => [(60, s.1), (62, s.2.1)]) (fun s w' => Below wd.heap.size wd w' ∧ OwnRecs w' wd.heap.size s.2.1 own) ?_ ?_
              rotate_left
              · intro hJ2_4
                refine join_ (σ := Value × Value × Nat × Value × Nat) 8 #[true, true, true, true, false, true, false, false, false, false, false, true, false, false] (fun s => [(60, s.1), (17, .pointer (some ⟨s.2.2.2.2, 0, none⟩))]) (fun s w' => Below wd.heap.size wd w' ∧ OwnRecs w' wd.heap.size s.1 [] ∧ ZeroBlk w' s.2.2.2.2 ∧ wd.heap.size ≤ s.2.2.2.2) ?_ ?_
                rotate_left
                · intro hJ2_11
                  refine join_ (σ := Value × Value × Nat × Value × Nat) 9 #[true, true, true, true, false, true, false, false, false, false, false, false, false, false] (fun s => [(60, s.1)]) (fun s w' => Below wd.heap.size wd w' ∧ OwnRecs w' wd.heap.size s.1 []) ?_ ?_
                  rotate_left
                  · intro hJ2
                    refine join_ (σ := Value × Value × Nat × Value × Nat) 9 #[true, true, false, true, false, true, false, false, false, false, false, true, false, false] (fun s => [(17, .pointer (some ⟨s.2.2.2.2, 0, none⟩))]) (fun s w' => Below wd.heap.size wd w' ∧ ZeroBlk w' s.2.2.2.2 ∧ wd.heap.size ≤ s.2.2.2.2) ?_ ?_
                    rotate_left
                    · intro hJ11
                      refine two_ (i := 2) (j := 11) (Ni := some 60) (Nj := some 17) #[true, true, true, true, false, true, false, false, false, false, false, false, false, false] #[true, true, false, true, false, true, false, false, false, false, false, true, false, false] rfl rfl rfl rfl (by kernel_rfl) (by decide) (by decide) (fun K hK => ?_) (fun K hK => ?_)
                      · skip
                        refine value_ (w1 := ?_) (v := ?_) (by rfl) rfl ?_ ?_
                        rotate_left 2
                        · go_simp
                          constructor
                          · rfl
                          · rfl
                        have bA : Below wd.heap.size wd (wd.alloc (.cells #[] 42)) := below_alloc (Below.refl _ _) _
                        have n40 : OwnRecs (wd.alloc (.cells #[] 42)) wd.heap.size (.slice (some ⟨wd.heap.size, 0, none⟩) 0 0) [] := recs_own wd wd.heap.size [] fB.size (Nat.zero_le _)
                        have fB := below_then fB fB.size bA
                        refine hK.out _ _ (HWd.out.below fB) (fun hHeld => ?_)
                        clear hK K
                        refine norm_ (a' := ?_) ?_ ?_
                        rotate_left
                        · show Act.put _ (some 60) _ = _
                          simp only [Act.put, List.setIfInBounds_toArray, List.set_cons_zero, List.set_cons_succ, i64_w, i32_w]
                          rfl
                        exact norm_ (by first | (simp only [putAll, Act.put, List.setIfInBounds_toArray, List.set_cons_zero, List.set_cons_succ]; done) | (simp only [putAll, Act.put, List.setIfInBounds_toArray, List.set_cons_zero, List.set_cons_succ]; rfl)) (hJ2 (.slice (some ⟨wd.heap.size, 0, none⟩) 0 0, .nilIface, 0, .nilIface, 0) _ ⟨fB, n40⟩)
                      · skip
                        refine value_ (w1 := ?_) (v := ?_) (by rfl) rfl ?_ ?_
                        rotate_left 2
                        · go_simp
                          constructor
                          · rfl
                          · rfl
                        have bA : Below wd.heap.size wd (wd.alloc (.cells #[.string ⟨#[]⟩, .string ⟨#[]⟩, .int .u8 0, .int .i64 0, .int .i64 0, .int .i64 0, .int .i64 0, .int .i64 0, .bool false] 25)) := below_alloc (Below.refl _ _) _
                        have n14 : ZeroBlk (wd.alloc (.cells #[.string ⟨#[]⟩, .string ⟨#[]⟩, .int .u8 0, .int .i64 0, .int .i64 0, .int .i64 0, .int .i64 0, .int .i64 0, .bool false] 25)) wd.heap.size := World.alloc_heap_new wd _
                        have m14 := fB.size
                        have fB := below_then fB fB.size bA
                        refine hK.out _ _ (HWd.out.below fB) (fun hHeld => ?_)
                        clear hK K
                        refine norm_ (a' := ?_) ?_ ?_
                        rotate_left
                        · show Act.put _ (some 17) _ = _
                          simp only [Act.put, List.setIfInBounds_toArray, List.set_cons_zero, List.set_cons_succ, i64_w, i32_w]
                          rfl
                        exact norm_ (by first | (simp only [putAll, Act.put, List.setIfInBounds_toArray, List.set_cons_zero, List.set_cons_succ]; done) | (simp only [putAll, Act.put, List.setIfInBounds_toArray, List.set_cons_zero, List.set_cons_succ]; rfl)) (hJ11 (.nilIface, .nilIface, 0, .nilIface, wd.heap.size) _ ⟨fB, n14, m14⟩)
                    · skip
                      rintro ⟨s40, s42, b45, s46, b17⟩ wq ⟨fB, f14, g14⟩
                      (try dsimp only at fB f14 g14)
                      have hHeld : HdBlk wq w.heap.size h := HWd.out.below fB
                      refine norm_ (a' := ?_) ?_ ?_
                      rotate_left
                      · simp only [putAll, Act.put, List.setIfInBounds_toArray, List.set_cons_zero, List.set_cons_succ]
                        rfl
                      refine one_ (i := 2) (N := some 60) #[true, true, true, true, false, true, false, false, false, false, false, true, false, false] rfl rfl (by kernel_rfl) (by decide) (fun K hK => ?_)
                      refine value_ (w1 := ?_) (v := ?_) (by rfl) rfl ?_ ?_
                      rotate_left 2
                      · go_simp
                        constructor
                        · rfl
                        · rfl
                      have bA : Below wq.heap.size wq (wq.alloc (.cells #[] 42)) := below_alloc (Below.refl _ _) _
                      have f14 := f14.below bA
                      have n40 : OwnRecs (wq.alloc (.cells #[] 42)) wd.heap.size (.slice (some ⟨wq.heap.size, 0, none⟩) 0 0) [] := recs_own wq wd.heap.size [] fB.size (Nat.zero_le _)
                      have fB := below_then fB fB.size bA
                      refine hK.out _ _ (HWd.out.below fB) (fun hHeld => ?_)
                      clear hK K
                      refine norm_ (a' := ?_) ?_ ?_
                      rotate_left
                      · show Act.put _ (some 60) _ = _
                        simp only [Act.put, List.setIfInBounds_toArray, List.set_cons_zero, List.set_cons_succ, i64_w, i32_w]
                        rfl
                      exact norm_ (by first | (simp only [putAll, Act.put, List.setIfInBounds_toArray, List.set_cons_zero, List.set_cons_succ]; done) | (simp only [putAll, Act.put, List.setIfInBounds_toArray, List.set_cons_zero, List.set_cons_succ]; rfl)) (hJ2_11 (.slice (some ⟨wq.heap.size, 0, none⟩) 0 0, .nilIface, 0, .nilIface, b17) _ ⟨fB, n40, f14, g14⟩)
                  · skip
                    rintro ⟨s40, s42, b45, s46, b17⟩ wq ⟨fB, f40⟩
                    (try dsimp only at fB f40)
                    have hHeld : HdBlk wq w.heap.size h := HWd.out.below fB
                    refine norm_ (a' := ?_) ?_ ?_
                    rotate_left
                    · simp only [putAll, Act.put, List.setIfInBounds_toArray, List.set_cons_zero, List.set_cons_succ]
                      rfl
                    refine two_ (i := 4) (j := 11) (Ni := some 62) (Nj := some 17) #[true, true, true, true, true, true, false, false, false, false, false, false, false, false] #[true, true, true, true, false, true, false, false, false, false, false, true, false, false] rfl rfl rfl rfl (by kernel_rfl) (by decide) (by decide) (fun K hK => ?_) (fun K hK => ?_)
                    · skip
                      refine append_recs_step (w0 := wd) (.tmp 60) (.tmp 61) s40 [] own A own.length c (by rfl) rfl rfl rfl f40 (C_old HR.out (below_then HBd.out HBd.out.size fB)) fB (by have := HLO.out; simp; omega) ?_
                      intro v42 w42 r42 B42 G42
                      rw [List.nil_append] at r42
                      have fB := B42
                      refine hK.out _ _ (HWd.out.below fB) (fun hHeld => ?_)
                      clear hK K
                      refine norm_ (a' := ?_) ?_ ?_
                      rotate_left
                      · show Act.put _ (some 62) _ = _
                        simp only [Act.put, List.setIfInBounds_toArray, List.set_cons_zero, List.set_cons_succ, i64_w, i32_w]
                        rfl
                      exact norm_ (by first | (simp only [putAll, Act.put, List.setIfInBounds_toArray, List.set_cons_zero, List.set_cons_succ]; done) | (simp only [putAll, Act.put, List.setIfInBounds_toArray, List.set_cons_zero, List.set_cons_succ]; rfl)) (hJ2_4 (s40, v42, 0, .nilIface, 0) _ ⟨fB, r42⟩)
                    · skip
                      refine value_ (w1 := ?_) (v := ?_) (by rfl) rfl ?_ ?_
                      rotate_left 2
                      · go_simp
                        constructor
                        · rfl
                        · rfl
                      have bA : Below wq.heap.size wq (wq.alloc (.cells #[.string ⟨#[]⟩, .string ⟨#[]⟩, .int .u8 0, .int .i64 0, .int .i64 0, .int .i64 0, .int .i64 0, .int .i64 0, .bool false] 25)) := below_alloc (Below.refl _ _) _
                      have f40 := Kd.R_below f40 bA
                      have n14 : ZeroBlk (wq.alloc (.cells #[.string ⟨#[]⟩, .string ⟨#[]⟩, .int .u8 0, .int .i64 0, .int .i64 0, .int .i64 0, .int .i64 0, .int .i64 0, .bool false] 25)) wq.heap.size := World.alloc_heap_new wq _
                      have m14 := fB.size
                      have fB := below_then fB fB.size bA
                      refine hK.out _ _ (HWd.out.below fB) (fun hHeld => ?_)
                      clear hK K
                      refine norm_ (a' := ?_) ?_ ?_
                      rotate_left
                      · show Act.put _ (some 17) _ = _
                        simp only [Act.put, List.setIfInBounds_toArray, List.set_cons_zero, List.set_cons_succ, i64_w, i32_w]
                        rfl
                      exact norm_ (by first | (simp only [putAll, Act.put, List.setIfInBounds_toArray, List.set_cons_zero, List.set_cons_succ]; done) | (simp only [putAll, Act.put, List.setIfInBounds_toArray, List.set_cons_zero, List.set_cons_succ]; rfl)) (hJ2_11 (s40, .nilIface, 0, .nilIface, wq.heap.size) _ ⟨fB, f40, n14, m14⟩)
                · skip
                  rintro ⟨s40, s42, b45, s46, b17⟩ wq ⟨fB, f40, f14, g14⟩
                  (try dsimp only at fB f40 f14 g14)
                  have hHeld : HdBlk wq w.heap.size h := HWd.out.below fB
                  refine norm_ (a' := ?_) ?_ ?_
                  rotate_left
                  · simp only [putAll, Act.put, List.setIfInBounds_toArray, List.set_cons_zero, List.set_cons_succ]
                    rfl
                  refine one_ (i := 4) (N := some 62) #[true, true, true, true, true, true, false, false, false, false, false, true, false, false] rfl rfl (by kernel_rfl) (by decide) (fun K hK => ?_)
                  refine append_recs_step (w0 := wd) (.tmp 60) (.tmp 61) s40 [] own A own.length c (by rfl) rfl rfl rfl f40 (C_old HR.out (below_then HBd.out HBd.out.size fB)) fB (by have := HLO.out; simp; omega) ?_
                  intro v42 w42 r42 B42 G42
                  rw [List.nil_append] at r42
                  have f14 := f14.grown f40 G42
                  have fB := B42
                  refine hK.out _ _ (HWd.out.below fB) (fun hHeld => ?_)
                  clear hK K
                  refine norm_ (a' := ?_) ?_ ?_
                  rotate_left
                  · show Act.put _ (some 62) _ = _
                    simp only [Act.put, List.setIfInBounds_toArray, List.set_cons_zero, List.set_cons_succ, i64_w, i32_w]
                    rfl
                  exact norm_ (by first | (simp only [putAll, Act.put, List.setIfInBounds_toArray, List.set_cons_zero, List.set_cons_succ]; done) | (simp only [putAll, Act.put, List.setIfInBounds_toArray, List.set_cons_zero, List.set_cons_succ]; rfl)) (hJ2_4_11 (s40, v42, 0, .nilIface, b17) _ ⟨fB, r42, f14, g14⟩)
              · skip
                rintro ⟨s40, s42, b45, s46, b17⟩ wq ⟨fB, f42⟩
                (try dsimp only at fB f42)
                have hHeld : HdBlk wq w.heap.size h := HWd.out.below fB
                refine norm_ (a' := ?_) ?_ ?_
                rotate_left
                · simp only [putAll, Act.put, List.setIfInBounds_toArray, List.set_cons_zero, List.set_cons_succ]
                  rfl
                refine two_ (i := 6) (j := 11) (Ni := some 64) (Nj := some 17) #[true, true, true, true, true, true, true, false, false, false, false, false, false, false] #[true, true, true, true, true, true, false, false, false, false, false, true, false, false] rfl rfl rfl rfl (by kernel_rfl) (by decide) (by decide) (fun K hK => ?_) (fun K hK => ?_)
                · skip
                  refine append_recs_step (w0 := wd) (.tmp 62) (.tmp 63) s42 own hiddenL (some ⟨w6.heap.size, 0, none⟩) 6 6 (by rfl) rfl rfl rfl f42 (Kd.C_below HHID.out fB) fB (by have := HLO.out; simp [hiddenL]; omega) ?_
                  intro v46 w46 r46 B46 G46
                  have fB := B46
                  refine hK.out _ _ (HWd.out.below fB) (fun hHeld => ?_)
                  clear hK K
                  refine norm_ (a' := ?_) ?_ ?_
                  rotate_left
                  · show Act.put _ (some 64) _ = _
                    simp only [Act.put, List.setIfInBounds_toArray, List.set_cons_zero, List.set_cons_succ, i64_w, i32_w]
                    rfl
                  exact norm_ (by first | (simp only [putAll, Act.put, List.setIfInBounds_toArray, List.set_cons_zero, List.set_cons_succ]; done) | (simp only [putAll, Act.put, List.setIfInBounds_toArray, List.set_cons_zero, List.set_cons_succ]; rfl)) (hJ2_4_6 (s40, s42, 0, v46, 0) _ ⟨fB, r46⟩)
                · skip
                  refine value_ (w1 := ?_) (v := ?_) (by rfl) rfl ?_ ?_
                  rotate_left 2
                  · go_simp
                    constructor
                    · rfl
                    · rfl
                  have bA : Below wq.heap.size wq (wq.alloc (.cells #[.string ⟨#[]⟩, .string ⟨#[]⟩, .int .u8 0, .int .i64 0, .int .i64 0, .int .i64 0, .int .i64 0, .int .i64 0, .bool false] 25)) := below_alloc (Below.refl _ _) _
                  have f42 := Kd.R_below f42 bA
                  have n14 : ZeroBlk (wq.alloc (.cells #[.string ⟨#[]⟩, .string ⟨#[]⟩, .int .u8 0, .int .i64 0, .int .i64 0, .int .i64 0, .int .i64 0, .int .i64 0, .bool false] 25)) wq.heap.size := World.alloc_heap_new wq _
                  have m14 := fB.size
                  have fB := below_then fB fB.size bA
                  refine hK.out _ _ (HWd.out.below fB) (fun hHeld => ?_)
                  clear hK K
                  refine norm_ (a' := ?_) ?_ ?_
                  rotate_left
                  · show Act.put _ (some 17) _ = _
                    simp only [Act.put, List.setIfInBounds_toArray, List.set_cons_zero, List.set_cons_succ, i64_w, i32_w]
                    rfl
                  exact norm_ (by first | (simp only [putAll, Act.put, List.setIfInBounds_toArray, List.set_cons_zero, List.set_cons_succ]; done) | (simp only [putAll, Act.put, List.setIfInBounds_toArray, List.set_cons_zero, List.set_cons_succ]; rfl)) (hJ2_4_11 (s40, s42, 0, .nilIface, wq.heap.size) _ ⟨fB, f42, n14, m14⟩)
            · skip
              rintro ⟨s40, s42, b45, s46, b17⟩ wq ⟨fB, f42, f14, g14⟩
              (try dsimp only at fB f42 f14 g14)
              have hHeld : HdBlk wq w.heap.size h := HWd.out.below fB
              refine norm_ (a' := ?_) ?_ ?_
              rotate_left
              · simp only [putAll, Act.put, List.setIfInBounds_toArray, List.set_cons_zero, List.set_cons_succ]
                rfl
              refine one_ (i := 6) (N := some 64) #[true, true, true, true, true, true, true, false, false, false, false, true, false, false] rfl rfl (by kernel_rfl) (by decide) (fun K hK => ?_)
              refine append_recs_step (w0 := wd) (.tmp 62) (.tmp 63) s42 own hiddenL (some ⟨w6.heap.size, 0, none⟩) 6 6 (by rfl) rfl rfl rfl f42 (Kd.C_below HHID.out fB) fB (by have := HLO.out; simp [hiddenL]; omega) ?_
              intro v46 w46 r46 B46 G46
              have f14 := f14.grown f42 G46
              have fB := B46
              refine hK.out _ _ (HWd.out.below fB) (fun hHeld => ?_)
              clear hK K
              refine norm_ (a' := ?_) ?_ ?_
              rotate_left
              · show Act.put _ (some 64) _ = _
                simp only [Act.put, List.setIfInBounds_toArray, List.set_cons_zero, List.set_cons_succ, i64_w, i32_w]
                rfl
              exact norm_ (by first | (simp only [putAll, Act.put, List.setIfInBounds_toArray, List.set_cons_zero, List.set_cons_succ]; done) | (simp only [putAll, Act.put, List.setIfInBounds_toArray, List.set_cons_zero, List.set_cons_succ]; rfl)) (hJ2_4_6_11 (s40, s42, 0, v46, b17) _ ⟨fB, r46, f14, g14⟩)
          · skip
            rintro ⟨s40, s42, b45, s46, b17⟩ wq ⟨fB, f46⟩
            (try dsimp only at fB f46)
            have hHeld : HdBlk wq w.heap.size h := HWd.out.below fB
            refine norm_ (a' := ?_) ?_ ?_
            rotate_left
            · simp only [putAll, Act.put, List.setIfInBounds_toArray, List.set_cons_zero, List.set_cons_succ]
              rfl
            refine two_ (i := 7) (j := 11) (Ni := some 65) (Nj := some 17) #[true, true, true, true, true, true, true, true, false, false, false, false, false, false] #[true, true, true, true, true, true, true, false, false, false, false, true, false, false] rfl rfl rfl rfl (by kernel_rfl) (by decide) (by decide) (fun K hK => ?_) (fun K hK => ?_)
            · skip
              obtain ⟨A46, c46, e46, hl46, hC46⟩ := Kd.R_reads f46
              subst e46
              refine goes_ Tryd.func11 (by kernel_rfl) rfl #[.pointer (some ⟨w.heap.size + 1, 0, none⟩), .agg #[.string h.name, .string h.link, .int .u8 h.kind, .int .i64 h.mode, .int .i64 h.uid, .int .i64 h.gid, .int .i64 h.time, .int .i64 h.size, .bool h.gnu], .slice A46 (own ++ hiddenL).length c46] (by rfl) rfl rfl (by simp only [List.map_toArray, List.map_cons, List.map_nil]; rfl) ?_
              with_reducible refine (apply_callN (some ⟨w.heap.size + 1, 0, none⟩) g h A46 _ c46 (own ++ hiddenL) _ (HSd.out.below fB).reads hC46 (by have := HLO.out; simp [hiddenL]; omega) HLG.out (HE.out.keep (below_then HBd.out HBd.out.size fB)) HS.out.1 (HS.out.2.append hidden_small) o3 HO3.out).mono ?_
              rintro e w47 ⟨rfl, hb47⟩
              refine ⟨_, rfl, ?_⟩
              have fB := below_then fB fB.size hb47
              refine hK.out _ _ (HWd.out.below fB) (fun hHeld => ?_)
              clear hK K
              refine norm_ (a' := ?_) ?_ ?_
              rotate_left
              · show Act.put _ (some 65) _ = _
                simp only [Act.put, List.setIfInBounds_toArray, List.set_cons_zero, List.set_cons_succ, i64_w, i32_w]
                rfl
              refine pure_ (i := 8) (N := some 57) (v := ?_) (a' := ?_) #[true, true, true, true, true, true, true, true, true, false, false, false, false, false] rfl rfl (by kernel_rfl) (fun _ _ _ h => h) (Or.inl ⟨by rfl, ?_⟩) ?_ ?_
              rotate_left
              · intro w'
                go_simp
                with_reducible rfl
              rotate_left
              · simp only [Act.put, List.setIfInBounds_toArray, List.set_cons_zero, List.set_cons_succ, i64_w, i32_w]
                rfl
              refine pure_ (i := 9) (N := some 66) (v := ?_) (a' := ?_) #[true, true, true, true, true, true, true, true, true, true, false, false, false, false] rfl rfl (by kernel_rfl) (fun _ _ _ h => h) (Or.inl ⟨by rfl, ?_⟩) ?_ ?_
              rotate_left
              · intro w'
                go_simp
                with_reducible rfl
              rotate_left
              · simp only [Act.put, List.setIfInBounds_toArray, List.set_cons_zero, List.set_cons_succ, i64_w, i32_w]
                rfl
              refine pure_ (i := 10) (N := some 67) (v := ?_) (a' := ?_) #[true, true, true, true, true, true, true, true, true, true, true, false, false, false] rfl rfl (by kernel_rfl) (fun _ _ _ h => h) (Or.inl ⟨by rfl, ?_⟩) ?_ ?_
              rotate_left
              · intro w'
                go_simp
                with_reducible rfl
              rotate_left
              · simp only [Act.put, List.setIfInBounds_toArray, List.set_cons_zero, List.set_cons_succ, i64_w, i32_w]
                rfl
              exact norm_ (by first | (simp only [putAll, Act.put, List.setIfInBounds_toArray, List.set_cons_zero, List.set_cons_succ]; done) | (simp only [putAll, Act.put, List.setIfInBounds_toArray, List.set_cons_zero, List.set_cons_succ]; rfl)) (hJ2_4_6_7 (s40, s42, 0, .slice A46 (own ++ hiddenL).length c46, 0) _ fB)
            · skip
              refine value_ (w1 := ?_) (v := ?_) (by rfl) rfl ?_ ?_
              rotate_left 2
              · go_simp
                constructor
                · rfl
                · rfl
              have bA : Below wq.heap.size wq (wq.alloc (.cells #[.string ⟨#[]⟩, .string ⟨#[]⟩, .int .u8 0, .int .i64 0, .int .i64 0, .int .i64 0, .int .i64 0, .int .i64 0, .bool false] 25)) := below_alloc (Below.refl _ _) _
              have f46 := Kd.R_below f46 bA
              have n14 : ZeroBlk (wq.alloc (.cells #[.string ⟨#[]⟩, .string ⟨#[]⟩, .int .u8 0, .int .i64 0, .int .i64 0, .int .i64 0, .int .i64 0, .int .i64 0, .bool false] 25)) wq.heap.size := World.alloc_heap_new wq _
              have m14 := fB.size
              have fB := below_then fB fB.size bA
              refine hK.out _ _ (HWd.out.below fB) (fun hHeld => ?_)
              clear hK K
              refine norm_ (a' := ?_) ?_ ?_
              rotate_left
              · show Act.put _ (some 17) _ = _
                simp only [Act.put, List.setIfInBounds_toArray, List.set_cons_zero, List.set_cons_succ, i64_w, i32_w]
                rfl
              exact norm_ (by first | (simp only [putAll, Act.put, List.setIfInBounds_toArray, List.set_cons_zero, List.set_cons_succ]; done) | (simp only [putAll, Act.put, List.setIfInBounds_toArray, List.set_cons_zero, List.set_cons_succ]; rfl)) (hJ2_4_6_11 (s40, s42, 0, s46, wq.heap.size) _ ⟨fB, f46, n14, m14⟩)
        · skip
          rintro ⟨s40, s42, b45, s46, b17⟩ wq ⟨fB, f46, f14, g14⟩
          (try dsimp only at fB f46 f14 g14)
          have hHeld : HdBlk wq w.heap.size h := HWd.out.below fB
          refine norm_ (a' := ?_) ?_ ?_
          rotate_left
          · simp only [putAll, Act.put, List.setIfInBounds_toArray, List.set_cons_zero, List.set_cons_succ]
            rfl
          refine one_ (i := 7) (N := some 65) #[true, true, true, true, true, true, true, true, false, false, false, true, false, false] rfl rfl (by kernel_rfl) (by decide) (fun K hK => ?_)
          obtain ⟨A46, c46, e46, hl46, hC46⟩ := Kd.R_reads f46
          subst e46
          refine goes_ Tryd.func11 (by kernel_rfl) rfl #[.pointer (some ⟨w.heap.size + 1, 0, none⟩), .agg #[.string h.name, .string h.link, .int .u8 h.kind, .int .i64 h.mode, .int .i64 h.uid, .int .i64 h.gid, .int .i64 h.time, .int .i64 h.size, .bool h.gnu], .slice A46 (own ++ hiddenL).length c46] (by rfl) rfl rfl (by simp only [List.map_toArray, List.map_cons, List.map_nil]; rfl) ?_
          with_reducible refine (apply_callN (some ⟨w.heap.size + 1, 0, none⟩) g h A46 _ c46 (own ++ hiddenL) _ (HSd.out.below fB).reads hC46 (by have := HLO.out; simp [hiddenL]; omega) HLG.out (HE.out.keep (below_then HBd.out HBd.out.size fB)) HS.out.1 (HS.out.2.append hidden_small) o3 HO3.out).mono ?_
          rintro e w47 ⟨rfl, hb47⟩
          refine ⟨_, rfl, ?_⟩
          have f14 := f14.below hb47
          have fB := below_then fB fB.size hb47
          refine hK.out _ _ (HWd.out.below fB) (fun hHeld => ?_)
          clear hK K
          refine norm_ (a' := ?_) ?_ ?_
          rotate_left
          · show Act.put _ (some 65) _ = _
            simp only [Act.put, List.setIfInBounds_toArray, List.set_cons_zero, List.set_cons_succ, i64_w, i32_w]
            rfl
          refine pure_ (i := 8) (N := some 57) (v := ?_) (a' := ?_) #[true, true, true, true, true, true, true, true, true, false, false, true, false, false] rfl rfl (by kernel_rfl) (fun _ _ _ h => h) (Or.inl ⟨by rfl, ?_⟩) ?_ ?_
          rotate_left
          · intro w'
            go_simp
            with_reducible rfl
          rotate_left
          · simp only [Act.put, List.setIfInBounds_toArray, List.set_cons_zero, List.set_cons_succ, i64_w, i32_w]
            rfl
          refine pure_ (i := 9) (N := some 66) (v := ?_) (a' := ?_) #[true, true, true, true, true, true, true, true, true, true, false, true, false, false] rfl rfl (by kernel_rfl) (fun _ _ _ h => h) (Or.inl ⟨by rfl, ?_⟩) ?_ ?_
          rotate_left
          · intro w'
            go_simp
            with_reducible rfl
          rotate_left
          · simp only [Act.put, List.setIfInBounds_toArray, List.set_cons_zero, List.set_cons_succ, i64_w, i32_w]
            rfl
          refine pure_ (i := 10) (N := some 67) (v := ?_) (a' := ?_) #[true, true, true, true, true, true, true, true, true, true, true, true, false, false] rfl rfl (by kernel_rfl) (fun _ _ _ h => h) (Or.inl ⟨by rfl, ?_⟩) ?_ ?_
          rotate_left
          · intro w'
            go_simp
            with_reducible rfl
          rotate_left
          · simp only [Act.put, List.setIfInBounds_toArray, List.set_cons_zero, List.set_cons_succ, i64_w, i32_w]
            rfl
          exact norm_ (by first | (simp only [putAll, Act.put, List.setIfInBounds_toArray, List.set_cons_zero, List.set_cons_succ]; done) | (simp only [putAll, Act.put, List.setIfInBounds_toArray, List.set_cons_zero, List.set_cons_succ]; rfl)) (hJ2_4_6_7_11 (s40, s42, 0, .slice A46 (own ++ hiddenL).length c46, b17) _ ⟨fB, f14, g14⟩)
      · skip
        rintro ⟨s40, s42, b45, s46, b17⟩ wq fB
        (try dsimp only at fB)
        have hHeld : HdBlk wq w.heap.size h := HWd.out.below fB
        refine norm_ (a' := ?_) ?_ ?_
        rotate_left
        · simp only [putAll, Act.put, List.setIfInBounds_toArray, List.set_cons_zero, List.set_cons_succ]
          rfl
        refine one_ (i := 11) (N := some 17) #[true, true, true, true, true, true, true, true, true, true, true, true, false, false] rfl rfl (by kernel_rfl) (by decide) (fun K hK => ?_)
        refine value_ (w1 := ?_) (v := ?_) (by rfl) rfl ?_ ?_
        rotate_left 2
        · go_simp
          constructor
          · rfl
          · rfl
        have bA : Below wq.heap.size wq (wq.alloc (.cells #[.string ⟨#[]⟩, .string ⟨#[]⟩, .int .u8 0, .int .i64 0, .int .i64 0, .int .i64 0, .int .i64 0, .int .i64 0, .bool false] 25)) := below_alloc (Below.refl _ _) _
        have n14 : ZeroBlk (wq.alloc (.cells #[.string ⟨#[]⟩, .string ⟨#[]⟩, .int .u8 0, .int .i64 0, .int .i64 0, .int .i64 0, .int .i64 0, .int .i64 0, .bool false] 25)) wq.heap.size := World.alloc_heap_new wq _
        have m14 := fB.size
        have fB := below_then fB fB.size bA
        refine hK.out _ _ (HWd.out.below fB) (fun hHeld => ?_)
        clear hK K
        refine norm_ (a' := ?_) ?_ ?_
        rotate_left
        · show Act.put _ (some 17) _ = _
          simp only [Act.put, List.setIfInBounds_toArray, List.set_cons_zero, List.set_cons_succ, i64_w, i32_w]
          rfl
        exact norm_ (by first | (simp only [putAll, Act.put, List.setIfInBounds_toArray, List.set_cons_zero, List.set_cons_succ]; done) | (simp only [putAll, Act.put, List.setIfInBounds_toArray, List.set_cons_zero, List.set_cons_succ]; rfl)) (hJ2_4_6_7_11 (s40, s42, 0, s46, wq.heap.size) _ ⟨fB, n14, m14⟩)
    rintro ⟨s40, s42, b45, s46, b17⟩ wq ⟨fB, f14, g14⟩
    (try dsimp only at fB f14 g14)
    have hHeld : HdBlk wq w.heap.size h := HWd.out.below fB
    refine norm_ (a' := ?_) ?_ ?_
    rotate_left
    · simp only [putAll, Act.put, List.setIfInBounds_toArray, List.set_cons_zero, List.set_cons_succ]
      rfl
    refine last_ (i := 12) (N := none) #[true, true, true, true, true, true, true, true, true, true, true, true, true, false] rfl rfl (by kernel_rfl) (by decide) (fun K hK => ?_)
    obtain ⟨z0, y0⟩ := blk_at f14 0 rfl
    obtain ⟨z1, y1⟩ := blk_at f14 1 rfl
    obtain ⟨z2, y2⟩ := blk_at f14 2 rfl
    obtain ⟨z3, y3⟩ := blk_at f14 3 rfl
    obtain ⟨z4, y4⟩ := blk_at f14 4 rfl
    obtain ⟨z5, y5⟩ := blk_at f14 5 rfl
    obtain ⟨z6, y6⟩ := blk_at f14 6 rfl
    obtain ⟨z7, y7⟩ := blk_at f14 7 rfl
    obtain ⟨z8, y8⟩ := blk_at f14 8 rfl
    refine skip_ (w1 := ?_) (by rfl) rfl ?_ ?_
    rotate_left
    · go_simp
      rfl
    refine hK.out _ _ ?_
    clear hK K
    refine pure_ (i := 13) (N := some 18) (v := ?_) (a' := ?_) #[true, true, true, true, true, true, true, true, true, true, true, true, true, true] rfl rfl (by kernel_rfl) (fun _ _ _ h => h) (Or.inl ⟨by rfl, ?_⟩) ?_ ?_
    rotate_left
    · intro w'
      go_simp
      with_reducible rfl
    rotate_left
    · simp only [Act.put, List.setIfInBounds_toArray, List.set_cons_zero, List.set_cons_succ, i64_w, i32_w]
      rfl
    refine done_ (by kernel_rfl) ?_
    obtain ⟨hX9, hB9⟩ := hd_put (w := wd) (hdOf o3) fB f14 g14
    clear f14 g14 fB z0 z1 z2 z3 z4 z5 z6 z7 z8 y0 y1 y2 y3 y4 y5 y6 y7 y8 hHeld
    generalize (((((((((wq.setCell ⟨b17, 0, none⟩ (.string (hdOf o3).name)).setCell ⟨b17, 1, none⟩ (.string (hdOf o3).link)).setCell ⟨b17, 2, none⟩ (.int .u8 (hdOf o3).kind)).setCell ⟨b17, 3, none⟩ (.int .i64 (hdOf o3).mode)).setCell ⟨b17, 4, none⟩ (.int .i64 (hdOf o3).uid)).setCell ⟨b17, 5, none⟩ (.int .i64 (hdOf o3).gid)).setCell ⟨b17, 6, none⟩ (.int .i64 (hdOf o3).time)).setCell ⟨b17, 7, none⟩ (.int .i64 (hdOf o3).size)).setCell ⟨b17, 8, none⟩ (.bool (hdOf o3).gnu)) = w9 at hX9 hB9 ⊢
    rw [HH3.out.1] at hX9
    have HX9 := Aside0.mk hX9
    have HXe := Aside0.mk (HXc.out.below hB9)
    have HXf := Aside0.mk (HXd.out.below hB9)
    have HW9 := Aside0.mk (HWd.out.below hB9)
    have HS9 := Aside0.mk (HSd.out.below hB9)
    have HB9 := Aside0.mk (below_then HBd.out HBd.out.size hB9)
    clear hX9 hB9 HXc HXd HWd HSd HBd HHID
    have he3 := HH3.out.2
    have hqe : ∀ s : ByteArray, (s.toList == s.toList) = true := fun s => by simp
    go_outline
    go_wp2_with (first
      | (go_at_call 9; with_reducible refine (ans7_call _ (HE.out.keep HB9.out)).mono ?_; rintro e w10 ⟨rfl, hb10⟩; have HB10 := Aside0.mk (below_then HB9.out HB9.out.size hb10); have HS10 := Aside0.mk (HS9.out.below hb10); obtain ⟨k0, k1, k2, k3, k4, k5, k6, k7, k8⟩ := (HXf.out.below hb10).at; obtain ⟨j0, j1, j2, j3, j4, j5, j6, j7, j8⟩ := (HXe.out.below hb10).at; obtain ⟨i0, i1, i2, i3, i4, i5, i6, i7, i8⟩ := (HX9.out.below hb10).at; obtain ⟨m0, m1, m2, m3, m4, m5, m6, m7, m8⟩ := (HW9.out.below hb10).at; clear hb10)
      | (at_builtin; (refine gate_guard (by rfl) ?_; refine append_recs (w0 := w10) (.tmp 91) (.tmp 92) (.slice (some ⟨w10.heap.size, 0, none⟩) 0 0) [] own A own.length c rfl rfl rfl rfl (recs_own w10 w10.heap.size [] (Nat.le_refl _) (Nat.zero_le _)) (C_old HR.out (below_alloc HB10.out _)) (below_alloc (Below.refl _ _) _) (by have := HLO.out; simp; omega) ?_); intro v11 w11 r11 B11 _ _; rw [List.nil_append] at r11; have R11 := Aside0.mk r11; have HB11 := Aside0.mk B11; clear r11 B11)
      | (at_builtin; (refine gate_guard (by rfl) ?_; refine append_recs (w0 := w10) (.tmp 93) (.tmp 97) v11 own [⟨key, value⟩] (some ⟨w11.heap.size, 0, none⟩) 1 1 rfl rfl rfl rfl (Kd.R_below R11.out (below_alloc (Below.refl _ _) _)) (RecBlk.reads (x := ⟨key, value⟩) (World.alloc_heap_new w11 _)) (below_alloc HB11.out _) (by have := HLO.out; simp; omega) ?_); intro v12 w12 r12 B12 _ _; obtain ⟨A12, c12, rfl, hl12, hC12⟩ := Kd.R_reads r12; rw [List.length_append, List.length_singleton] at hC12; have HC12 := Aside0.mk hC12; have HB12 := Aside0.mk B12; clear r12 B12 hl12 hC12)
      | (go_at_call 13; with_reducible refine (value_last (some ⟨w.heap.size + 1, 0, none⟩) g A12 _ c12 own key value _ (HS10.out.below HB12.out).reads HC12.out (by have := HLO.out; omega) HLG.out).mono ?_; rintro e w13 ⟨rfl, hb13⟩; have HB13 := Aside0.mk (below_then (below_then HB10.out HB10.out.size HB12.out) (Nat.le_trans HB10.out.size HB12.out.size) hb13); clear hb13))
    go_ret
    exact ⟨rfl, HB13.out⟩
end Go.Proofs.YtehfblmconkdhaaDoor.Q
