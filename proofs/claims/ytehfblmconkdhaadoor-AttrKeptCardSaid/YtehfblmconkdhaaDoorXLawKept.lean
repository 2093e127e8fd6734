/- bindlelaw07.AttrKept. -/
import Derived.Test.YtehfblmconkdhaaDoorXAns7
import Derived.Test.YtehfblmconkdhaaDoorXApp7
namespace Go.Proofs.YtehfblmconkdhaaDoor.Q
open Go.RowKit Go.Proofs.YtehfblmconkdhaaDoorW.PrintWords Go.Proofs.YtehfblmconkdhaaDoorW.PrintLast Go.Proofs.YtehfblmconkdhaaDoorW.PrintMore
set_option linter.unusedVariables false
set_option linter.unusedSimpArgs false
/-- What stands while the own copy is turned: the header, the state, the first result; the copy is a row of its own. -/
structure KeptEnv (w : World) (h H1 : Hd) (v : Value) (g : List S42) (x1 : Nat) (W : World) : Prop where
  below : Below w.heap.size w W
  hd : HdBlk W w.heap.size h
  st : StateOwn W w.heap.size (w.heap.size + 1) v g
  r1 : HdBlk W x1 H1
/-- The own copy: a block of its own, apart from the state's row. -/
def RowOk (lo : Nat) (W : World) (v : Value) (A : Option Addr) (n : Nat) : Prop := 0 < n → ∃ b cs, A = some ⟨b, 0, none⟩ ∧ lo ≤ b ∧ W.heap[b]? = some (.cells cs 42 (0, 0)) ∧ n * 2 ≤ cs.size ∧ v.ownBlock ≠ some b
theorem rowOk_of {W : World} {lo base c n : Nat} (hlo : lo ≤ base) {A : Option Addr} {v : Value} {l : List S42} (h : OwnRecs W base (.slice A n c) l) (hn : l.length = n) (hv : ∀ k, v.ownBlock = some k → A.map (·.block) ≠ some k) : RowOk lo W v A n := fun hpos => by
  obtain ⟨_, inner, ho, _⟩ := h
  rw [hn] at ho
  rcases ho.2 with ⟨h1, h2⟩ | ⟨g, cap, cur, h1, hbg, hh, hle, _, hsz, _⟩
  · omega
  · simp only [Value.slice.injEq] at h1
    obtain ⟨rfl, _, rfl⟩ := h1
    refine ⟨g, cur, rfl, Nat.le_trans hlo hbg, hh, ?_, fun e => hv g e rfl⟩
    have e2 : k42.sz = 2 := rfl
    rw [hsz, e2]
    exact Nat.mul_le_mul_right _ hle
theorem RowOk.block {lo : Nat} {W W2 : World} {v : Value} {A : Option Addr} {n : Nat} (h : RowOk lo W v A n) (hb : ∀ b, A = some ⟨b, 0, none⟩ → b < W.heap.size → W2.heap[b]? = W.heap[b]?) : RowOk lo W2 v A n := fun hpos => by
  obtain ⟨b, cs, h1, hl, h2, h3, h4⟩ := h hpos
  exact ⟨b, cs, h1, hl, (hb b h1 (Array.getElem?_eq_some_iff.1 h2).1).trans h2, h3, h4⟩
theorem RowOk.below {lo : Nat} {W W2 : World} {v : Value} {A : Option Addr} {n : Nat} (h : RowOk lo W v A n) (hb : Below W.heap.size W W2) : RowOk lo W2 v A n := h.block (fun b _ hlt => hb.block b hlt)
theorem heap_setCell_same {W : World} {b t j : Nat} {cs : Array Value} {x : Value} (h : W.heap[b]? = some (.cells cs t (0, 0))) : (W.setCell ⟨b, j, none⟩ x).heap[b]? = some (.cells (cs.setIfInBounds j x) t (0, 0)) := blk_put h j x rfl
theorem KeptEnv.set {w W : World} {h H1 : Hd} {v : Value} {g : List S42} {x1 b j : Nat} {cs : Array Value} {x : Value} (e : KeptEnv w h H1 v g x1 W) (hb : W.heap[b]? = some (.cells cs 42 (0, 0))) (hv : v.ownBlock ≠ some b) (hlt : w.heap.size ≤ b) : KeptEnv w h H1 v g x1 (W.setCell ⟨b, j, none⟩ x) where
  below := below_set e.below hlt
  hd := (Below.heap_setCell W ⟨b, j, none⟩ x w.heap.size (fun e1 => by
    have e1 : w.heap.size = b := e1
    have h2 : W.heap[w.heap.size]? = _ := e.hd
    rw [e1, hb] at h2
    simp at h2)).trans e.hd
  st := by
    have hne : w.heap.size + 1 ≠ b := fun e1 => by
      have h2 := e.st.1
      rw [e1, hb] at h2
      simp at h2
    refine ⟨(Below.heap_setCell W ⟨b, j, none⟩ x _ hne).trans e.st.1, Kd.R_mono (Kd.R_step e.st.own (fun k hk _ => Below.heap_setCell W ⟨b, j, none⟩ x k (fun e1 => hv (by rw [hk]; exact congrArg some e1)))) (fun _ _ => trivial)⟩
  r1 := (Below.heap_setCell W ⟨b, j, none⟩ x x1 (fun e1 => by
    have e1 : x1 = b := e1
    have h2 : W.heap[x1]? = _ := e.r1
    rw [e1, hb] at h2
    simp at h2)).trans e.r1
theorem RowOk.set {lo b n cs : Nat} {W : World} {v : Value} (c : Array Value) (hb : W.heap[b]? = some (.cells c 42 (0, 0))) (hl : lo ≤ b) (hsz : n * 2 ≤ c.size) (hv : v.ownBlock ≠ some b) (x y : Value) : RowOk lo ((W.setCell ⟨b, cs, none⟩ x).setCell ⟨b, cs + 1, none⟩ y) v (some ⟨b, 0, none⟩) n := fun _ =>
  ⟨b, _, rfl, hl, heap_setCell_same (heap_setCell_same hb), by simpa using hsz, hv⟩
theorem KeptEnv.next {w W W2 : World} {h H1 : Hd} {v : Value} {g : List S42} {x1 : Nat} (e : KeptEnv w h H1 v g x1 W) (hb : Below W.heap.size W W2) : KeptEnv w h H1 v g x1 W2 := ⟨below_then e.below e.below.size hb, e.hd.below hb, e.st.below hb, e.r1.below hb⟩
set_option maxRecDepth 100000 in
set_option maxHeartbeats 2000000 in
theorem attrKept_walk (h : Hd) (Ag : Option Addr) (cg : Nat) (g : List S42) (A : Option Addr) (c : Nat) (own : List S42) (w : World) (hE : ErrsOk w)
    (hgr : Kd.C k42 w Ag g.length g) (hgc : g.length ≤ cg) (hgb : g.length ≤ 1000000000000000) (hgs : Small g)
    (hr : Kd.C k42 w A own.length own) (hc : own.length ≤ c) (hn : own.length ≤ 1000000000000000) (hs : Small own) :
    Calls Tryd.prog 6 #[.agg #[.string h.name, .string h.link, .int .u8 h.kind, .int .i64 h.mode, .int .i64 h.uid, .int .i64 h.gid, .int .i64 h.time, .int .i64 h.size, .bool h.gnu], .slice Ag g.length cg, .slice A own.length c] w fun e w' => e = .returned (.bool true) ∧ Below w.heap.size w w' := by
  have HE := Aside0.mk hE
  have HG := Aside0.mk hgr
  have HR := Aside0.mk hr
  have HC := Aside0.mk hc
  have HS := Aside0.mk (And.intro hgs hs)
  clear hE hgr hr hgc hc hgs hs
  by_cases hnn : 100 < (g.length : Int) + (own.length : Int)
  · go_enter Tryd.func6, Tryd.ntmps6
    have HB0 := Aside0.mk (below_alloc (Below.refl w.heap.size w) (.cells #[.string h.name, .string h.link, .int .u8 h.kind, .int .i64 h.mode, .int .i64 h.uid, .int .i64 h.gid, .int .i64 h.time, .int .i64 h.size, .bool h.gnu] 25))
    go_wp2_with (go_at_call 9; with_reducible refine (ans7_call _ (HE.out.keep HB0.out)).mono ?_; rintro e w1 ⟨rfl, hb1⟩; have HB1 := Aside0.mk (below_then HB0.out HB0.out.size hb1); clear hb1)
    go_ret
    exact ⟨rfl, HB1.out⟩
  · have HLG := Aside0.mk (show g.length ≤ 1000000 by omega)
    have HLO := Aside0.mk (show own.length ≤ 1000000 by omega)
    obtain ⟨o1, ho1⟩ : ∃ o, applyO g [] h = o := ⟨_, rfl⟩
    obtain ⟨o2, ho2⟩ : ∃ o, applyO g own h = o := ⟨_, rfl⟩
    obtain ⟨o3, ho3⟩ : ∃ o, applyO [] own h = o := ⟨_, rfl⟩
    have HO1 := Aside0.mk ho1
    have HO2 := Aside0.mk ho2
    have HO3 := Aside0.mk ho3
    clear ho1 ho2 ho3
    obtain ⟨Z, hZ⟩ : ∃ Z, Obj.cells #[.string h.name, .string h.link, .int .u8 h.kind, .int .i64 h.mode, .int .i64 h.uid, .int .i64 h.gid, .int .i64 h.time, .int .i64 h.size, .bool h.gnu] 25 = Z := ⟨_, rfl⟩
    have hw1 : HdBlk (w.alloc Z) w.heap.size h := by rw [← hZ]; exact HdBlk.made w h
    have hs1 := made_state (w.alloc Z)
    rw [World.size_alloc] at hs1
    have HB0 := Aside0.mk (below_alloc (below_alloc (Below.refl w.heap.size w) Z) (.cells #[.slice none 0 0] 30))
    have HW0 := Aside0.mk (hw1.below (below_alloc (Below.refl _ _) (.cells #[.slice none 0 0] 30)))
    go_enter Tryd.func6, Tryd.ntmps6
    go_upto_region 4 with (fail)
    have HS0 := Aside0.mk (show StateOwn _ w.heap.size (w.heap.size + 1) (.slice none 0 0) [] from ⟨hs1.1, Kd.R_nil _ _ _ _ _⟩)
    clear hs1 hw1 hZ
    generalize (w.alloc Z).alloc (.cells #[.slice none 0 0] 30) = W0 at HS0 HB0 HW0 ⊢
    have hbx := Aside0.mk (below_alloc (Below.refl W0.heap.size W0) (.cells #[] 42))
    have hrx := Aside0.mk (recs_own W0 W0.heap.size [] (Nat.le_refl _) (by simp))
    go_upto_region 5 with (at_builtin; (refine append_recs (w0 := W0) (.tmp 27) (.tmp 28) (.slice (some ⟨W0.heap.size, 0, none⟩) 0 0) [] g Ag g.length cg rfl rfl rfl rfl hrx.out (C_old HG.out (below_then HB0.out HB0.out.size hbx.out)) hbx.out (by have := HLG.out; simp; omega) ?_); intro v3 w3 hr3 hb3 _ _; rw [List.nil_append] at hr3; obtain ⟨A3, c3, rfl, hl3, hC3⟩ := Kd.R_reads hr3; have HC3 := Aside0.mk hC3; have HR3 := Aside0.mk hr3; have HB3 := Aside0.mk hb3; clear hr3 hb3 hl3 hC3)
    go_upto_region 6 with (go_at_call 10; with_reducible refine (global_call w (w.heap.size + 1) _ _ A3 c3 g _ (HS0.out.below HB3.out) HC3.out (below_then HB0.out HB0.out.size HB3.out) (Nat.le_succ _) (by have := HLG.out; simp; omega)).mono ?_; rintro e w1 ⟨rfl, v1, hs1, ho1, hg1, hb1⟩; have HS1 := Aside0.mk hs1; have HW1 := Aside0.mk ((HW0.out.below HB3.out).grew hg1 (by omega) (by simp [Value.ownBlock])); have HB1 := Aside0.mk hb1; have HG1 := Aside0.mk hg1; have HOW := Aside0.mk ho1; clear hs1 ho1 hg1 hb1)
    rw [List.nil_append] at HS1
    have hrow : RowOk w.heap.size w1 v1 A3 g.length := by
      refine RowOk.block (W := w3) (rowOk_of HB0.out.size HR3.out rfl (fun k hk => ?_)) (fun b hb hlt => HG1.out.block b hlt (fun e1 => ?_) (by simp [Value.ownBlock]))
      · rcases HOW.out with hw | ⟨b, hw, hle⟩
        · rw [hk] at hw
          simp [Value.ownBlock] at hw
        · rw [hk] at hw
          obtain rfl := Option.some.inj hw
          intro e1
          have hlt := ((Kd.R_bound HR3.out).1 k (by
            cases A3 with
            | none => simp at e1
            | some a => simpa [Value.ownBlock] using e1)).2.2.1
          omega
      · subst e1
        subst hb
        have h1 := (HS0.out.below HB3.out).1
        obtain ⟨cs, h2⟩ : ∃ cs, w3.heap[w.heap.size + 1]? = some (.cells cs 42 (0, 0)) := by
          have := ((Kd.R_bound HR3.out).1 (w.heap.size + 1) rfl).2.2.2
          obtain ⟨q, hq, cells, hc⟩ := this
          have : q = (42 : Nat) := by
            have : k42.E = [] := rfl
            simpa [this] using hq
          exact ⟨cells, by rw [hc, this]⟩
        rw [h2] at h1
        simp at h1
    have HROW := Aside0.mk hrow
    clear hrow HR3 HG1 HOW HC3 HB3 HS0 HB0 HW0 hbx hrx
    obtain ⟨k0, k1, k2, k3, k4, k5, k6, k7, k8⟩ := HW1.out.at
    go_upto_region 7 with (go_at_call 11; with_reducible refine (apply_empty (some ⟨w.heap.size + 1, 0, none⟩) g h _ HS1.out.reads HLG.out (HE.out.keep HB1.out) HS.out.1 o1 HO1.out).mono ?_; rintro e w2 ⟨rfl, hb2⟩; have HS2 := Aside0.mk (HS1.out.below hb2); have HW2 := Aside0.mk (HW1.out.below hb2); have HB2 := Aside0.mk (below_then HB1.out HB1.out.size hb2); have HROW2 := Aside0.mk (HROW.out.below hb2); clear hb2)
    clear k0 k1 k2 k3 k4 k5 k6 k7 k8 HS1 HW1 HB1 HROW
    obtain ⟨Y, hY⟩ : ∃ Y, Obj.cells #[.string (hdOf o1).name, .string (hdOf o1).link, .int .u8 (hdOf o1).kind, .int .i64 (hdOf o1).mode, .int .i64 (hdOf o1).uid, .int .i64 (hdOf o1).gid, .int .i64 (hdOf o1).time, .int .i64 (hdOf o1).size, .bool (hdOf o1).gnu] 25 = Y := ⟨_, rfl⟩
    have HK3 := Aside0.mk (KeptEnv.mk (below_alloc HB2.out Y) (HW2.out.below (below_alloc (Below.refl _ _) Y)) (HS2.out.below (below_alloc (Below.refl _ _) Y)) (show HdBlk (w2.alloc Y) w2.heap.size (hdOf o1) by rw [← hY]; exact HdBlk.made w2 _))
    have HROW3 := Aside0.mk (HROW2.out.below (below_alloc (Below.refl _ _) Y))
    try rw [hY]
    clear hY HS2 HW2 HB2 HROW2
    have hx1 : w2.heap.size = w2.heap.size := rfl
    generalize w2.alloc Y = w3' at HK3 HROW3 ⊢
    go_wp2
    go_loopw [11] (fun i wr => ∃ k : Nat, i = .int .i64 (k : Int) ∧ k ≤ g.length ∧ Aside0 (KeptEnv w h (hdOf o1) v1 g w2.heap.size wr) ∧ Aside0 (RowOk w.heap.size wr v1 A3 g.length)) (fun i _ => g.length - (intOf i).toNat)
    case atStart => exact ⟨0, rfl, Nat.zero_le _, HK3, HROW3⟩
    case round =>
      clear HK3 HROW3
      obtain ⟨k, rfl, hk, hK, hR⟩ := hrel
      by_cases hlt : k < g.length
      · obtain ⟨b, cs, rfl, hlb, hb, hsz, hv⟩ := hR.out (by omega)
        have h0 : (0 : Int) ≤ (k : Int) := Int.natCast_nonneg _
        have h1 : (k : Int) < (g.length : Int) := by omega
        obtain ⟨u0, hx0⟩ : ∃ u, cs[k * 2]? = some u := ⟨_, Array.getElem?_eq_getElem (by omega)⟩
        obtain ⟨u1, hx1⟩ : ∃ u, cs[k * 2 + 1]? = some u := ⟨_, Array.getElem?_eq_getElem (by omega)⟩
        obtain ⟨hc0, hf0⟩ := blk_at hb (k * 2) hx0
        obtain ⟨hc1, hf1⟩ := blk_at hb (k * 2 + 1) hx1
        clear hx0 hx1
        have HH := Aside0.mk (And.intro hb (And.intro hsz (And.intro hv hlb)))
        clear hb hsz hv hlb
        go_wp2
        refine ⟨⟨k + 1, by simp, hlt, ⟨?_⟩, ⟨RowOk.set cs HH.out.1 HH.out.2.2.2 HH.out.2.1 HH.out.2.2.1 _ _⟩⟩, by simp [intOf]; omega⟩
        exact (hK.out.set HH.out.1 HH.out.2.2.1 HH.out.2.2.2).set (heap_setCell_same HH.out.1) HH.out.2.2.1 HH.out.2.2.2
      · have h1 : ¬ ((k : Int) < (g.length : Int)) := by omega
        have HK := Aside0.mk hK.out
        clear hR hK
        obtain ⟨k0, k1, k2, k3, k4, k5, k6, k7, k8⟩ := HK.out.hd.at
        go_upto_region 12 with (go_at_call 11; with_reducible refine (apply_call (some ⟨w.heap.size + 1, 0, none⟩) g h A c own _ HK.out.st.reads (C_old HR.out HK.out.below) HLO.out HLG.out (HE.out.keep HK.out.below) HS.out.1 HS.out.2 o2 HO2.out).mono ?_; rintro e w4 ⟨rfl, hb4⟩; have HK4 := Aside0.mk (HK.out.next hb4); clear hb4)
        clear k0 k1 k2 k3 k4 k5 k6 k7 k8 HK
        obtain ⟨k0, k1, k2, k3, k4, k5, k6, k7, k8⟩ := HK4.out.hd.at
        go_upto_region 13 with (go_at_call 11; with_reducible refine (apply_empty (some ⟨w.heap.size + 1, 0, none⟩) g h _ HK4.out.st.reads HLG.out (HE.out.keep HK4.out.below) HS.out.1 o1 HO1.out).mono ?_; rintro e w5 ⟨rfl, hb5⟩; have HK5 := Aside0.mk (HK4.out.next hb5); clear hb5)
        clear k0 k1 k2 k3 k4 k5 k6 k7 k8 HK4
        obtain ⟨Y, hY⟩ : ∃ Y, Obj.cells #[.string (hdOf o1).name, .string (hdOf o1).link, .int .u8 (hdOf o1).kind, .int .i64 (hdOf o1).mode, .int .i64 (hdOf o1).uid, .int .i64 (hdOf o1).gid, .int .i64 (hdOf o1).time, .int .i64 (hdOf o1).size, .bool (hdOf o1).gnu] 25 = Y := ⟨_, rfl⟩
        have HXw6 := Aside0.mk (show HdBlk (w5.alloc Y) w5.heap.size (hdOf o1) by rw [← hY]; exact HdBlk.made w5 _)
        have HK6 := Aside0.mk (HK5.out.next (below_alloc (Below.refl _ _) Y))
        try rw [hY]
        clear hY
        generalize w5.alloc Y = w6 at HXw6 HK6 ⊢
        clear HK5
        obtain ⟨k0, k1, k2, k3, k4, k5, k6, k7, k8⟩ := HK6.out.hd.at
        go_upto_region 15 with (go_at_call 11; with_reducible refine (apply_call none [] h A c own _ (stateIn_none _) (C_old HR.out HK6.out.below) HLO.out (by simp) (HE.out.keep HK6.out.below) Small.nil HS.out.2 o3 HO3.out).mono ?_; rintro e w7 ⟨rfl, hb7⟩; have HK7 := Aside0.mk (HK6.out.next hb7); have HXa := Aside0.mk (HXw6.out.below hb7); clear hb7)
        clear k0 k1 k2 k3 k4 k5 k6 k7 k8 HK6 HXw6
        obtain ⟨Y, hY⟩ : ∃ Y, Obj.cells #[.string (hdOf o3).name, .string (hdOf o3).link, .int .u8 (hdOf o3).kind, .int .i64 (hdOf o3).mode, .int .i64 (hdOf o3).uid, .int .i64 (hdOf o3).gid, .int .i64 (hdOf o3).time, .int .i64 (hdOf o3).size, .bool (hdOf o3).gnu] 25 = Y := ⟨_, rfl⟩
        have HXw8 := Aside0.mk (show HdBlk (w7.alloc Y) w7.heap.size (hdOf o3) by rw [← hY]; exact HdBlk.made w7 _)
        have HK8 := Aside0.mk (HK7.out.next (below_alloc (Below.refl _ _) Y))
        have HXb := Aside0.mk (HXa.out.below (below_alloc (Below.refl _ _) Y))
        try rw [hY]
        clear hY
        generalize w7.alloc Y = w8 at HXw8 HK8 HXb ⊢
        clear HK7 HXa
        obtain ⟨k0, k1, k2, k3, k4, k5, k6, k7, k8⟩ := HK8.out.hd.at
        go_upto_region 16 with (go_at_call 12; with_reducible refine (refapply_nil h A c own _ (C_old HR.out HK8.out.below) HC.out HLO.out HS.out.2 o3 HO3.out).mono ?_; rintro e w9 ⟨rfl, hb9⟩; have HK9 := Aside0.mk (HK8.out.next hb9); have HXc := Aside0.mk (HXb.out.below hb9); have HXd := Aside0.mk (HXw8.out.below hb9); clear hb9)
        clear k0 k1 k2 k3 k4 k5 k6 k7 k8 HK8 HXb HXw8
        obtain ⟨Y, hY⟩ : ∃ Y, Obj.cells #[.string (hdOf o3).name, .string (hdOf o3).link, .int .u8 (hdOf o3).kind, .int .i64 (hdOf o3).mode, .int .i64 (hdOf o3).uid, .int .i64 (hdOf o3).gid, .int .i64 (hdOf o3).time, .int .i64 (hdOf o3).size, .bool (hdOf o3).gnu] 25 = Y := ⟨_, rfl⟩
        have HXw10 := Aside0.mk (show HdBlk (w9.alloc Y) w9.heap.size (hdOf o3) by rw [← hY]; exact HdBlk.made w9 _)
        have HK10 := Aside0.mk (HK9.out.next (below_alloc (Below.refl _ _) Y))
        have HXe := Aside0.mk (HXc.out.below (below_alloc (Below.refl _ _) Y))
        have HXf := Aside0.mk (HXd.out.below (below_alloc (Below.refl _ _) Y))
        try rw [hY]
        clear hY
        generalize w9.alloc Y = w10 at HXw10 HK10 HXe HXf ⊢
        clear HK9 HXc HXd
        have hqe : ∀ s : ByteArray, (s.toList == s.toList) = true := fun s => by simp
        go_wp2_with (go_at_call 9; with_reducible refine (ans7_call _ (HE.out.keep HK10.out.below)).mono ?_; rintro e w11 ⟨rfl, hb11⟩; have HB11 := Aside0.mk (below_then HK10.out.below HK10.out.below.size hb11); obtain ⟨k0, k1, k2, k3, k4, k5, k6, k7, k8⟩ := (HK10.out.r1.below hb11).at; obtain ⟨j0, j1, j2, j3, j4, j5, j6, j7, j8⟩ := (HXe.out.below hb11).at; obtain ⟨i0, i1, i2, i3, i4, i5, i6, i7, i8⟩ := (HXf.out.below hb11).at; obtain ⟨m0, m1, m2, m3, m4, m5, m6, m7, m8⟩ := (HXw10.out.below hb11).at; clear hb11)
        go_ret
        exact ⟨rfl, HB11.out⟩
end Go.Proofs.YtehfblmconkdhaaDoor.Q
