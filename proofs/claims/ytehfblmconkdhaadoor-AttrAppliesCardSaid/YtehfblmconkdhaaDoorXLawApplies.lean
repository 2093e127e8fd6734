/- bindlelaw07.AttrApplies. -/
import Derived.Test.YtehfblmconkdhaaDoorXAns7
import Derived.Test.YtehfblmconkdhaaDoorXApp7
namespace Go.Proofs.YtehfblmconkdhaaDoor.Q
open Go.RowKit Go.Proofs.YtehfblmconkdhaaDoorW.PrintWords Go.Proofs.YtehfblmconkdhaaDoorW.PrintLast Go.Proofs.YtehfblmconkdhaaDoorW.PrintMore
set_option linter.unusedVariables false
set_option linter.unusedSimpArgs false
theorem at_rows {w : World} {A : Option Addr} {n : Nat} {xs : List (List S42)} (h : Kd.C (Kd.slice 42 k42) w A n xs) (k : Nat) (hk : k < n) : ∃ ad Ak ck, A = some ad ∧ w.cell? (ad.add k) = some (.slice Ak (xs.getD k []).length ck) ∧ (xs.getD k []).length ≤ ck ∧ Kd.C k42 w Ak (xs.getD k []).length (xs.getD k []) := by
  obtain ⟨ad, c, e, _, hK, hc⟩ := Kd.C_get h [] (k : Int) (by omega) (by omega)
  rw [Int.toNat_natCast] at hK
  obtain ⟨Ak, ck, rfl, hl, hC⟩ := hK
  have h0 := hc 0 _ rfl
  have e1 : (Kd.slice (42 : Nat) k42).sz = 1 := rfl
  rw [e1, Int.toNat_natCast, Nat.mul_one, Nat.add_zero] at h0
  exact ⟨ad, Ak, ck, e, h0, hl, hC⟩
def flatK (parts : List (List S42)) (k : Nat) : List S42 := (parts.take k).flatten
theorem flatK_succ (parts : List (List S42)) (k : Nat) (h : k < parts.length) : flatK parts (k + 1) = flatK parts k ++ parts.getD k [] := by
  unfold flatK
  rw [List.take_succ_eq_append_getElem h, List.flatten_append]
  simp [List.getD_eq_getElem?_getD, List.getElem?_eq_getElem h]
theorem flatK_small {parts : List (List S42)} (hs : ∀ y ∈ parts, Small y) (k : Nat) : Small (flatK parts k) := fun x hx => by
  unfold flatK at hx
  obtain ⟨y, hy, hxy⟩ := List.mem_flatten.1 hx
  exact hs y (List.mem_of_mem_take hy) x hxy
/-- The loop's world: the header, the state, the row of all records. -/
structure AppEnv (w : World) (h : Hd) (vs : Value) (ls : List S42) (v8 : Value) (la : List S42) (W : World) : Prop where
  below : Below w.heap.size w W
  hd : HdBlk W w.heap.size h
  st : StateOwn W w.heap.size (w.heap.size + 1) vs ls
  all : OwnRecs W w.heap.size v8 la
  apart : ∀ k, v8.ownBlock = some k → vs.ownBlock ≠ some k
section
variable {w W W2 : World} {h : Hd} {vs vs2 v8 v9 : Value} {ls ls2 la la2 : List S42}
theorem all_lt (h : OwnRecs W w.heap.size v8 la) {k : Nat} (hk : v8.ownBlock = some k) : k < W.heap.size := ((Kd.R_bound h).1 k hk).2.2.1
theorem AppEnv.next (e : AppEnv w h vs ls v8 la W) (hb : Below W.heap.size W W2) : AppEnv w h vs ls v8 la W2 := ⟨below_then e.below e.below.size hb, e.hd.below hb, e.st.below hb, Kd.R_below e.all hb, e.apart⟩
theorem AppEnv.glob (e : AppEnv w h vs ls v8 la W) (hs : StateOwn W2 w.heap.size (w.heap.size + 1) vs2 ls2) (ho : vs2.ownBlock = vs.ownBlock ∨ ∃ b, vs2.ownBlock = some b ∧ W.heap.size ≤ b) (g : Grew W W2 (w.heap.size + 1) vs) (hb : Below w.heap.size w W2) : AppEnv w h vs2 ls2 v8 la W2 where
  below := hb
  hd := e.hd.grew g (e.hd.ne e.st).1 (e.hd.ne e.st).2
  st := hs
  all := Kd.R_mono (Kd.R_step (Kd.R_flat k42_flat (ok' := fun k => v8.ownBlock = some k) e.all (fun k hk _ => hk)) (fun k hk hlt => g.block k hlt (fun e1 => by
    have := Kd.R_ne e.all e.st.1 (by decide)
    exact this (by rw [← e1, hk])) (fun e1 => e.apart k hk e1.symm))) (fun _ _ => trivial)
  apart := fun k hk => by
    rcases ho with ho | ⟨b, ho, hle⟩
    · rw [ho]
      exact e.apart k hk
    · rw [ho]
      intro e1
      have := all_lt e.all hk
      have : b = k := Option.some.inj e1
      omega
theorem AppEnv.app (e : AppEnv w h vs ls v8 la W) (hr : OwnRecs W2 w.heap.size v9 la2) (hb : Below w.heap.size w W2) (g : W.grownBy W2 v8.ownBlock) (ho : v9.ownBlock = v8.ownBlock ∨ ∃ b, v9.ownBlock = some b ∧ W.heap.size ≤ b) : AppEnv w h vs ls v9 la2 W2 where
  below := hb
  hd := (g.block _ e.hd.lt (Kd.R_ne e.all e.hd (by decide))).trans e.hd
  st := ⟨(g.block _ (Array.getElem?_eq_some_iff.1 e.st.1).1 (Kd.R_ne e.all e.st.1 (by decide))).trans e.st.1, Kd.R_mono (Kd.R_step e.st.own (fun k hk hlt => g.block k hlt (fun e1 => e.apart k e1.symm hk))) (fun _ _ => trivial)⟩
  all := hr
  apart := fun k hk hv => by
    rcases ho with ho | ⟨b, ho, hle⟩
    · exact e.apart k (ho ▸ hk) hv
    · rw [ho] at hk
      have : b = k := Option.some.inj hk
      have := (e.st.base hv).2
      omega
end
set_option maxRecDepth 100000 in
set_option maxHeartbeats 2000000 in
theorem attrApplies_walk (h : Hd) (Ap : Option Addr) (cp : Nat) (parts : List (List S42)) (A : Option Addr) (c : Nat) (own : List S42) (w : World) (hE : ErrsOk w)
    (hpr : Kd.C (Kd.slice 42 k42) w Ap parts.length parts) (hpc : parts.length ≤ cp) (hpb : parts.length ≤ 1000000000000000) (hps : ∀ y ∈ parts, y.length ≤ 1000000000000000 ∧ Small y)
    (hr : Kd.C k42 w A own.length own) (hc : own.length ≤ c) (hn : own.length ≤ 1000000000000000) (hs : Small own) :
    Calls Tryd.prog 3 #[.agg #[.string h.name, .string h.link, .int .u8 h.kind, .int .i64 h.mode, .int .i64 h.uid, .int .i64 h.gid, .int .i64 h.time, .int .i64 h.size, .bool h.gnu], .slice Ap parts.length cp, .slice A own.length c] w fun e w' => e = .returned (.bool true) ∧ Below w.heap.size w w' := by
  have HE := Aside0.mk hE
  have HP := Aside0.mk hpr
  have HR := Aside0.mk hr
  have HC := Aside0.mk hc
  have HS := Aside0.mk hs
  have HPS := Aside0.mk hps
  clear hE hpr hr hpc hc hs hps
  obtain ⟨Z, hZ⟩ : ∃ Z, Obj.cells #[.string h.name, .string h.link, .int .u8 h.kind, .int .i64 h.mode, .int .i64 h.uid, .int .i64 h.gid, .int .i64 h.time, .int .i64 h.size, .bool h.gnu] 25 = Z := ⟨_, rfl⟩
  have hw1 : HdBlk (w.alloc Z) w.heap.size h := by rw [← hZ]; exact HdBlk.made w h
  have hs1 := made_state (w.alloc Z)
  rw [World.size_alloc] at hs1
  have HE0 := Aside0.mk (AppEnv.mk (vs := .slice none 0 0) (ls := flatK parts 0) (v8 := .slice none 0 0) (la := flatK parts 0) (below_alloc (below_alloc (Below.refl w.heap.size w) Z) (.cells #[.slice none 0 0] 30)) (hw1.below (below_alloc (Below.refl _ _) (.cells #[.slice none 0 0] 30))) (show StateOwn _ w.heap.size (w.heap.size + 1) (.slice none 0 0) [] from ⟨hs1.1, Kd.R_nil _ _ _ _ _⟩) (Kd.R_nil _ _ _ _ _) (fun k hk => by simp [Value.ownBlock] at hk))
  clear hw1 hs1
  go_enter Tryd.func3, Tryd.ntmps3
  go_wp2
  generalize (w.alloc Z).alloc (.cells #[.slice none 0 0] 30) = W0 at HE0 ⊢
  clear hZ
  go_loopw [8, 9] (fun v8 i wr => ∃ (k : Nat) (vs : Value), i = .int .i64 (k : Int) ∧ k ≤ parts.length ∧ Aside0 (AppEnv w h vs (flatK parts k) v8 (flatK parts k) wr) ∧ Aside0 ((flatK parts k).length ≤ 10 * k ∧ (0 < k → parts.length ≤ 10))) (fun _ i _ => parts.length - (intOf i).toNat)
  case atStart => exact ⟨0, _, rfl, Nat.zero_le _, HE0, ⟨by simp [flatK], fun h => absurd h (by decide)⟩⟩
  case round =>
    clear HE0
    obtain ⟨k, vs, rfl, hk, hK, hL⟩ := hrel
    by_cases hlt : k < parts.length
    · have h0 : (0 : Int) ≤ (k : Int) := Int.natCast_nonneg _
      have h1 : (k : Int) < (parts.length : Int) := by omega
      obtain ⟨ad, Ak, ck, rfl, hxw, hlk, hCk⟩ := at_rows HP.out k hlt
      obtain ⟨x, hx2⟩ : ∃ x, parts.getD k [] = x := ⟨_, rfl⟩
      rw [hx2] at hxw hCk hlk
      have HX := Aside0.mk hx2
      have HCK := Aside0.mk hCk
      have hxb : x.length ≤ 1000000000000000 := by
        rw [← hx2, List.getD_eq_getElem?_getD, List.getElem?_eq_getElem hlt]
        exact (HPS.out _ (List.getElem_mem _)).1
      have HXW := Aside0.mk hxw
      have hx := (hK.out.below.cell (World.block_lt_of_cell? w _ hxw)).trans hxw
      clear hx2 hCk hlk hxw
      by_cases hg : 10 < (parts.length : Int)
      · go_wp2_with (go_at_call 9; with_reducible refine (ans7_call _ (HE.out.keep hK.out.below)).mono ?_; rintro e w1 ⟨rfl, hb1⟩; have HB1 := Aside0.mk (below_then hK.out.below hK.out.below.size hb1); clear hb1)
        go_ret
        exact ⟨rfl, HB1.out⟩
      · by_cases hg2 : 10 < (x.length : Int)
        · go_wp2_with (go_at_call 9; with_reducible refine (ans7_call _ (HE.out.keep hK.out.below)).mono ?_; rintro e w1 ⟨rfl, hb1⟩; have HB1 := Aside0.mk (below_then hK.out.below hK.out.below.size hb1); clear hb1)
          go_ret
          exact ⟨rfl, HB1.out⟩
        · by_cases hg3 : 20 < (own.length : Int)
          · go_wp2_with (go_at_call 9; with_reducible refine (ans7_call _ (HE.out.keep hK.out.below)).mono ?_; rintro e w1 ⟨rfl, hb1⟩; have HB1 := Aside0.mk (below_then hK.out.below hK.out.below.size hb1); clear hb1)
            go_ret
            exact ⟨rfl, HB1.out⟩
          · have HXL := Aside0.mk (show x.length ≤ 10 ∧ k ≤ 10 by omega)
            have hbx := Aside0.mk (below_alloc (Below.refl wr.heap.size wr) (.cells #[] 42))
            have hrx := Aside0.mk (recs_own wr wr.heap.size [] (Nat.le_refl _) (by simp))
            have hxa := (hbx.out.cell (World.block_lt_of_cell? wr _ hx)).trans hx
            go_wp2_with (first
              | (at_builtin; (refine append_recs (w0 := wr) (.tmp 39) (.tmp 43) (.slice (some ⟨wr.heap.size, 0, none⟩) 0 0) [] x Ak x.length ck rfl rfl rfl rfl hrx.out (Kd.C_below HCK.out (below_then hK.out.below hK.out.below.size hbx.out)) hbx.out (by have := HXL.out; simp; omega) ?_); intro v3 w3 hr3 hb3 _ _; rw [List.nil_append] at hr3; obtain ⟨A3, c3, rfl, hl3, hC3⟩ := Kd.R_reads hr3; have HC3 := Aside0.mk hC3; have HK3 := Aside0.mk (hK.out.next hb3); clear hr3 hb3 hl3 hC3)
              | (go_at_call 10; with_reducible refine (global_call w (w.heap.size + 1) _ _ A3 c3 x _ HK3.out.st HC3.out HK3.out.below (Nat.le_succ _) (by have := HXL.out; have := hL.out.1; omega)).mono ?_; rintro e w4 ⟨rfl, vs4, hs4, ho4, hg4, hb4⟩; have HK4 := Aside0.mk (HK3.out.glob hs4 ho4 hg4 hb4); have hx4 := (HK4.out.below.cell (World.block_lt_of_cell? w _ HXW.out)).trans HXW.out; clear hs4 ho4 hg4 hb4)
              | (at_builtin; (refine append_recs (w0 := w) (.tmp 46) (.tmp 50) _ (flatK parts k) x Ak x.length ck rfl rfl rfl rfl HK4.out.all (Kd.C_below HCK.out HK4.out.below) HK4.out.below (by have := HXL.out; have := hL.out.1; omega) ?_); intro v5 w5 hr5 hb5 hg5 ho5; have HK5 := Aside0.mk (HK4.out.app hr5 hb5 hg5 ho5); clear hr5 hb5 hg5 ho5))
            go_roundw
            case rel => exact ⟨k + 1, vs4, by go_num, hlt, ⟨by rw [flatK_succ parts k hlt, HX.out]; exact HK5.out⟩, ⟨by rw [flatK_succ parts k hlt, List.length_append, HX.out]; have := HXL.out; have := hL.out.1; omega, fun _ => by omega⟩⟩
            case measure => simp [intOf]; omega
    · have h1 : ¬ ((k : Int) < (parts.length : Int)) := by omega
      have hk0 : (flatK parts k).length ≤ 1000000 := by
        have h1 := hL.out.1
        rcases Nat.eq_zero_or_pos k with h2 | h2
        · omega
        · have := hL.out.2 h2
          omega
      obtain ⟨A8, c8, hv8, hl8, hC8⟩ := Kd.R_reads hK.out.all
      subst hv8
      have HLK := Aside0.mk hk0
      have HK := Aside0.mk hK.out
      have HSM := Aside0.mk (flatK_small (parts := parts) (fun y hy => (HPS.out y hy).2) k)
      have HL8 := Aside0.mk hl8
      obtain ⟨l, hl⟩ : ∃ l, flatK parts k = l := ⟨_, rfl⟩
      rw [hl] at HK HLK HSM HL8 hC8 ⊢
      have HC8 := Aside0.mk hC8
      obtain ⟨o, ho⟩ : ∃ o, applyO l own h = o := ⟨_, rfl⟩
      have HO := Aside0.mk ho
      have HLO := Aside0.mk hn
      clear hK hL hl8 hC8 hk0 hl ho hn
      obtain ⟨k0, k1, k2, k3, k4, k5, k6, k7, k8⟩ := HK.out.hd.at
      go_upto_region 11 with (go_at_call 11; with_reducible refine (apply_callB (some ⟨w.heap.size + 1, 0, none⟩) l h A c own _ HK.out.st.reads (C_old HR.out HK.out.below) HLO.out (by have := HLK.out; omega) (HE.out.keep HK.out.below) HSM.out HS.out o HO.out).mono ?_; rintro e w4 ⟨rfl, hb4⟩; have HK4 := Aside0.mk (HK.out.next hb4); have HC9 := Aside0.mk (Kd.C_below HC8.out hb4); clear hb4)
      clear k0 k1 k2 k3 k4 k5 k6 k7 k8 HK HC8
      obtain ⟨Y, hY⟩ : ∃ Y, Obj.cells #[.string (hdOf o).name, .string (hdOf o).link, .int .u8 (hdOf o).kind, .int .i64 (hdOf o).mode, .int .i64 (hdOf o).uid, .int .i64 (hdOf o).gid, .int .i64 (hdOf o).time, .int .i64 (hdOf o).size, .bool (hdOf o).gnu] 25 = Y := ⟨_, rfl⟩
      have HXw5 := Aside0.mk (show HdBlk (w4.alloc Y) w4.heap.size (hdOf o) by rw [← hY]; exact HdBlk.made w4 _)
      have HK5 := Aside0.mk (HK4.out.next (below_alloc (Below.refl _ _) Y))
      have HC10 := Aside0.mk (Kd.C_below HC9.out (below_alloc (Below.refl _ _) Y))
      try rw [hY]
      clear hY
      generalize w4.alloc Y = w5 at HXw5 HK5 HC10 ⊢
      clear HK4 HC9
      obtain ⟨k0, k1, k2, k3, k4, k5, k6, k7, k8⟩ := HK5.out.hd.at
      go_upto_region 12 with (go_at_call 12; with_reducible refine (refapply_callB A8 c8 l h A c own _ HC10.out HL8.out (C_old HR.out HK5.out.below) HC.out HLO.out (by have := HLK.out; omega) HSM.out HS.out o HO.out).mono ?_; rintro e w6 ⟨rfl, hb6⟩; have HK6 := Aside0.mk (HK5.out.next hb6); have HXa := Aside0.mk (HXw5.out.below hb6); clear hb6)
      clear k0 k1 k2 k3 k4 k5 k6 k7 k8 HK5 HXw5 HC10
      obtain ⟨Y, hY⟩ : ∃ Y, Obj.cells #[.string (hdOf o).name, .string (hdOf o).link, .int .u8 (hdOf o).kind, .int .i64 (hdOf o).mode, .int .i64 (hdOf o).uid, .int .i64 (hdOf o).gid, .int .i64 (hdOf o).time, .int .i64 (hdOf o).size, .bool (hdOf o).gnu] 25 = Y := ⟨_, rfl⟩
      have HXw7 := Aside0.mk (show HdBlk (w6.alloc Y) w6.heap.size (hdOf o) by rw [← hY]; exact HdBlk.made w6 _)
      have HK7 := Aside0.mk (HK6.out.next (below_alloc (Below.refl _ _) Y))
      have HXb := Aside0.mk (HXa.out.below (below_alloc (Below.refl _ _) Y))
      try rw [hY]
      clear hY
      generalize w6.alloc Y = w7 at HXw7 HK7 HXb ⊢
      clear HK6 HXa
      have hqe : ∀ s : ByteArray, (s.toList == s.toList) = true := fun s => by simp
      go_wp2_with (go_at_call 9; with_reducible refine (ans7_call _ (HE.out.keep HK7.out.below)).mono ?_; rintro e w8 ⟨rfl, hb8⟩; have HB8 := Aside0.mk (below_then HK7.out.below HK7.out.below.size hb8); obtain ⟨k0, k1, k2, k3, k4, k5, k6, k7, k8⟩ := (HXb.out.below hb8).at; obtain ⟨j0, j1, j2, j3, j4, j5, j6, j7, j8⟩ := (HXw7.out.below hb8).at; clear hb8)
      go_ret
      exact ⟨rfl, HB8.out⟩
end Go.Proofs.YtehfblmconkdhaaDoor.Q
