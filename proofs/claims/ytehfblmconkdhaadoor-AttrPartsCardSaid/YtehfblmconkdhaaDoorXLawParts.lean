/- bindlelaw07.AttrParts. -/
import Derived.Test.YtehfblmconkdhaaDoorXAns7
import Derived.Test.YtehfblmconkdhaaDoorXApp7
namespace Go.Proofs.YtehfblmconkdhaaDoor.Q
open Go.RowKit Go.Proofs.YtehfblmconkdhaaDoorW.PrintWords Go.Proofs.YtehfblmconkdhaaDoorW.PrintLast Go.Proofs.YtehfblmconkdhaaDoorW.PrintMore
set_option linter.unusedVariables false
set_option linter.unusedSimpArgs false
set_option maxRecDepth 100000 in
set_option maxHeartbeats 2000000 in
theorem attrParts_walk (h : Hd) (Aa : Option Addr) (ca : Nat) (la : List S42) (Ab : Option Addr) (cb : Nat) (lb : List S42) (A : Option Addr) (c : Nat) (own : List S42) (w : World) (hE : ErrsOk w)
    (hra : Kd.C k42 w Aa la.length la) (hca : la.length ≤ ca) (hna : la.length ≤ 1000000000000000) (hsa : Small la)
    (hrb : Kd.C k42 w Ab lb.length lb) (hcb : lb.length ≤ cb) (hnb : lb.length ≤ 1000000000000000) (hsb : Small lb)
    (hr : Kd.C k42 w A own.length own) (hc : own.length ≤ c) (hn : own.length ≤ 1000000000000000) (hs : Small own) :
    Calls Tryd.prog 7 #[.agg #[.string h.name, .string h.link, .int .u8 h.kind, .int .i64 h.mode, .int .i64 h.uid, .int .i64 h.gid, .int .i64 h.time, .int .i64 h.size, .bool h.gnu], .slice Aa la.length ca, .slice Ab lb.length cb, .slice A own.length c] w fun e w' => e = .returned (.bool true) ∧ Below w.heap.size w w' := by
  have HE := Aside0.mk hE
  have HA := Aside0.mk hra
  have HB := Aside0.mk hrb
  have HR := Aside0.mk hr
  have HS := Aside0.mk (And.intro (hsa.append hsb) hs)
  clear hE hra hrb hr hca hcb hc hsa hsb hs
  by_cases hnn : 100 < (la.length : Int) + (lb.length : Int) + (own.length : Int)
  · go_enter Tryd.func7, Tryd.ntmps7
    have HB0 := Aside0.mk (below_alloc (Below.refl w.heap.size w) (.cells #[.string h.name, .string h.link, .int .u8 h.kind, .int .i64 h.mode, .int .i64 h.uid, .int .i64 h.gid, .int .i64 h.time, .int .i64 h.size, .bool h.gnu] 25))
    go_wp2_with (go_at_call 9; with_reducible refine (ans7_call _ (HE.out.keep HB0.out)).mono ?_; rintro e w1 ⟨rfl, hb1⟩; have HB1 := Aside0.mk (below_then HB0.out HB0.out.size hb1); clear hb1)
    go_ret
    exact ⟨rfl, HB1.out⟩
  · have hla : la.length + lb.length ≤ 1000000 := by omega
    have hlo : own.length ≤ 1000000 := by omega
    have HLA := Aside0.mk hla
    have HLO := Aside0.mk hlo
    obtain ⟨o, ho⟩ : ∃ o, applyO (la ++ lb) own h = o := ⟨_, rfl⟩
    have HO := Aside0.mk ho
    clear ho hla hlo
    obtain ⟨Z, hZ⟩ : ∃ Z, Obj.cells #[.string h.name, .string h.link, .int .u8 h.kind, .int .i64 h.mode, .int .i64 h.uid, .int .i64 h.gid, .int .i64 h.time, .int .i64 h.size, .bool h.gnu] 25 = Z := ⟨_, rfl⟩
    have HZ := Aside0.mk hZ
    have hw1 : HdBlk (w.alloc Z) w.heap.size h := by rw [← hZ]; exact HdBlk.made w h
    have hs1 := made_state (w.alloc Z)
    rw [World.size_alloc] at hs1
    have hs2 := made_state ((w.alloc Z).alloc (.cells #[.slice none 0 0] 30))
    rw [World.size_alloc, World.size_alloc] at hs2
    have HB0 := Aside0.mk (below_alloc (below_alloc (below_alloc (Below.refl w.heap.size w) Z) (.cells #[.slice none 0 0] 30)) (.cells #[.slice none 0 0] 30))
    have HW0 := Aside0.mk ((hw1.below (below_alloc (Below.refl _ _) (.cells #[.slice none 0 0] 30))).below (below_alloc (Below.refl _ _) (.cells #[.slice none 0 0] 30)))
    go_enter Tryd.func7, Tryd.ntmps7
    go_upto_region 4 with (fail)
    have HS0 := Aside0.mk (StateOwn.below (W2 := ((w.alloc Z).alloc (.cells #[.slice none 0 0] 30)).alloc (.cells #[.slice none 0 0] 30)) (show StateOwn _ w.heap.size (w.heap.size + 1) (.slice none 0 0) [] from ⟨hs1.1, Kd.R_nil _ _ _ _ _⟩) (below_alloc (Below.refl _ _) _))
    have HT0 := Aside0.mk (show StateOwn _ w.heap.size (w.heap.size + 1 + 1) (.slice none 0 0) [] from ⟨hs2.1, Kd.R_nil _ _ _ _ _⟩)
    clear hs1 hs2 hw1 hZ
    generalize ((w.alloc Z).alloc (.cells #[.slice none 0 0] 30)).alloc (.cells #[.slice none 0 0] 30) = W0 at HS0 HT0 HB0 HW0 ⊢
    go_upto_region 5 with (go_at_call 10; with_reducible refine (global_call w (w.heap.size + 1) _ _ Aa ca la _ HS0.out (C_old HA.out HB0.out) HB0.out (Nat.le_succ _) (by have := HLA.out; simp; omega)).mono ?_; rintro e w1 ⟨rfl, v1, hs1, ho1, hg1, hb1⟩; have HS1 := Aside0.mk hs1; have HT1 := Aside0.mk (HT0.out.grew hg1 (by omega) (by simp [Value.ownBlock]) (by simp [Value.ownBlock]) (fun k hk => by simp [Value.ownBlock] at hk)); have HW1 := Aside0.mk (HW0.out.grew hg1 (by omega) (by simp [Value.ownBlock])); have HB1 := Aside0.mk hb1; clear hs1 ho1 hg1 hb1)
    clear HS0 HT0 HW0 HB0
    go_upto_region 6 with (go_at_call 10; with_reducible refine (global_call w (w.heap.size + 1) _ _ Ab cb lb _ HS1.out (C_old HB.out HB1.out) HB1.out (Nat.le_succ _) (by have := HLA.out; simp; omega)).mono ?_; rintro e w2 ⟨rfl, v2, hs2, ho2, hg2, hb2⟩; have HS2 := Aside0.mk hs2; have HT2 := Aside0.mk (HT1.out.grew hg2 (by omega) (HT1.out.ne2 HS1.out) (by simp [Value.ownBlock]) (fun k hk => by simp [Value.ownBlock] at hk)); have HW2 := Aside0.mk (HW1.out.grew hg2 (HW1.out.ne HS1.out).1 (HW1.out.ne HS1.out).2); have HB2 := Aside0.mk hb2; clear hs2 ho2 hg2 hb2)
    clear HS1 HT1 HW1 HB1
    rw [List.nil_append] at HS2
    have hbx := Aside0.mk (below_alloc (Below.refl w2.heap.size w2) (.cells #[] 42))
    have hrx := Aside0.mk (recs_own w2 w2.heap.size [] (Nat.le_refl _) (by simp))
    go_upto_region 7 with (first
      | (at_builtin; (refine append_recs (w0 := w2) (.tmp 34) (.tmp 35) (.slice (some ⟨w2.heap.size, 0, none⟩) 0 0) [] la Aa la.length ca rfl rfl rfl rfl hrx.out (C_old HA.out (below_then HB2.out HB2.out.size hbx.out)) hbx.out (by have := HLA.out; simp; omega) ?_); intro v3 w3 hr3 hb3 _ _; have HR3 := Aside0.mk hr3; have HB3 := Aside0.mk hb3; clear hr3 hb3)
      | (at_builtin; (refine append_recs (w0 := w2) (.tmp 36) (.tmp 37) v3 ([] ++ la) lb Ab lb.length cb rfl rfl rfl rfl HR3.out (C_old HB.out (below_then HB2.out HB2.out.size HB3.out)) HB3.out (by have := HLA.out; simp; omega) ?_); intro v4 w4 hr4 hb4 _ _; rw [List.nil_append] at hr4; obtain ⟨A4, c4, rfl, hl4, hC4⟩ := Kd.R_reads hr4; rw [List.length_append] at hl4 hC4; have HC4 := Aside0.mk hC4; have HB4 := Aside0.mk hb4; clear hr4 hb4 hl4 hC4)
      | (go_at_call 10; go_loud (refine (global_callN w (w.heap.size + 1 + 1) _ _ A4 _ c4 (la ++ lb) _ (HT2.out.below HB4.out) HC4.out (below_then HB2.out HB2.out.size HB4.out) (by omega) (by have := HLA.out; simp; omega)).mono ?_); rintro e w5 ⟨rfl, v5, hs5, ho5, hg5, hb5⟩; have HS5 := Aside0.mk ((HS2.out.below HB4.out).grew hg5 (by omega) (by simp [Value.ownBlock]) ((HT2.out.ne2 HS2.out)) (fun k hk => by simp [Value.ownBlock])); have HT5 := Aside0.mk hs5; have HW5 := Aside0.mk ((HW2.out.below HB4.out).grew hg5 (by omega) (by simp [Value.ownBlock])); have HB5 := Aside0.mk hb5; clear hs5 ho5 hg5 hb5))
    clear HS2 HT2 HW2 HB2 HR3 HB3 HC4 HB4 hbx hrx
    rw [List.nil_append] at HT5
    have hgl : (la ++ lb).length ≤ 1000000 := by have := HLA.out; simp; omega
    have HGL := Aside0.mk hgl
    clear hgl
    obtain ⟨k0, k1, k2, k3, k4, k5, k6, k7, k8⟩ := HW5.out.at
    go_upto_region 8 with (go_at_call 11; with_reducible refine (apply_call (some ⟨w.heap.size + 1, 0, none⟩) (la ++ lb) h A c own _ HS5.out.reads (C_old HR.out HB5.out) HLO.out HGL.out (HE.out.keep HB5.out) HS.out.1 HS.out.2 o HO.out).mono ?_; rintro e w6 ⟨rfl, hb6⟩; have HT6 := Aside0.mk (HT5.out.below hb6); have HW6 := Aside0.mk (HW5.out.below hb6); have HB6 := Aside0.mk (below_then HB5.out HB5.out.size hb6); clear hb6)
    clear k0 k1 k2 k3 k4 k5 k6 k7 k8 HS5 HT5 HW5 HB5
    obtain ⟨Y, hY⟩ : ∃ Y, Obj.cells #[.string (hdOf o).name, .string (hdOf o).link, .int .u8 (hdOf o).kind, .int .i64 (hdOf o).mode, .int .i64 (hdOf o).uid, .int .i64 (hdOf o).gid, .int .i64 (hdOf o).time, .int .i64 (hdOf o).size, .bool (hdOf o).gnu] 25 = Y := ⟨_, rfl⟩
    have HY := Aside0.mk hY
    have HT7 := Aside0.mk (HT6.out.below (below_alloc (Below.refl _ _) Y))
    have HW7 := Aside0.mk (HW6.out.below (below_alloc (Below.refl _ _) Y))
    have HB7 := Aside0.mk (below_alloc HB6.out Y)
    have HX7 := Aside0.mk (show HdBlk (w6.alloc Y) w6.heap.size (hdOf o) by rw [← hY]; exact HdBlk.made w6 _)
    try rw [hY]
    clear hY
    generalize w6.alloc Y = w7 at HT7 HW7 HB7 HX7 ⊢
    obtain ⟨k0, k1, k2, k3, k4, k5, k6, k7, k8⟩ := HW7.out.at
    go_upto_region 9 with (go_at_call 11; with_reducible refine (apply_call (some ⟨w.heap.size + 1 + 1, 0, none⟩) (la ++ lb) h A c own _ HT7.out.reads (C_old HR.out HB7.out) HLO.out HGL.out (HE.out.keep HB7.out) HS.out.1 HS.out.2 o HO.out).mono ?_; rintro e w8 ⟨rfl, hb8⟩; have HX8 := Aside0.mk (HX7.out.below hb8); have HB8 := Aside0.mk (below_then HB7.out HB7.out.size hb8); clear hb8)
    clear k0 k1 k2 k3 k4 k5 k6 k7 k8 HT7 HW7 HB7 HX7 HT6 HW6 HB6
    have hY := HY.out
    have HX9 := Aside0.mk (HX8.out.below (below_alloc (Below.refl _ _) Y))
    have HB9 := Aside0.mk (below_alloc HB8.out Y)
    have HY9 := Aside0.mk (show HdBlk (w8.alloc Y) w8.heap.size (hdOf o) by rw [← hY]; exact HdBlk.made w8 _)
    try rw [hY]
    clear hY
    generalize w8.alloc Y = w9 at HX9 HB9 HY9 ⊢
    have hqe : ∀ s : ByteArray, (s.toList == s.toList) = true := fun s => by simp
    go_wp2_with (go_at_call 9; with_reducible refine (ans7_call _ (HE.out.keep HB9.out)).mono ?_; rintro e w10 ⟨rfl, hb10⟩; have HB10 := Aside0.mk (below_then HB9.out HB9.out.size hb10); obtain ⟨k0, k1, k2, k3, k4, k5, k6, k7, k8⟩ := (HX9.out.below hb10).at; obtain ⟨j0, j1, j2, j3, j4, j5, j6, j7, j8⟩ := (HY9.out.below hb10).at; clear hb10)
    go_ret
    exact ⟨rfl, HB10.out⟩
end Go.Proofs.YtehfblmconkdhaaDoor.Q
