/- ref.Apply: a slice of pointers into the header's variable, walked in order. -/
import Derived.Test.YtehfblmconkdhaaDoorXApply
import Derived.Test.YtehfblmconkdhaaDoorXRefVal
import Derived.Test.YtehfblmconkdhaaDoorXRefNum
namespace Go.Proofs.YtehfblmconkdhaaDoor.Q
open Go.RowKit Go.Proofs.YtehfblmconkdhaaDoorW.PrintWords Go.Proofs.YtehfblmconkdhaaDoorW.PrintLast Go.Proofs.YtehfblmconkdhaaDoorW.PrintMore
set_option linter.unusedVariables false
set_option linter.unusedSimpArgs false
theorem drawn_below {w w' : World} (h : Drawn0 w w') : Below w.heap.size w w' := by
  obtain ⟨n, rfl⟩ := h
  exact pw_below_drewN (Below.refl _ _) n
def hdK (h : Hd) (vu vg vt vs : ByteArray) (k : Nat) : Hd := { h with uid := if 1 ≤ k then newNum false vu h.uid else h.uid, gid := if 2 ≤ k then newNum false vg h.gid else h.gid, time := if 3 ≤ k then newNum true vt h.time else h.time, size := if 4 ≤ k then newNum false vs h.size else h.size }
def okK (vu vg vt vs : ByteArray) (k : Nat) : Prop := (1 ≤ k → numOk false vu = true) ∧ (2 ≤ k → numOk false vg = true) ∧ (3 ≤ k → numOk true vt = true) ∧ (4 ≤ k → numOk false vs = true)
/-- The world of the loop: the header's and the result's variables, the keys' and the pointers' arrays. -/
structure Renv (w : World) (kb : Nat) (h : Hd) (W : World) : Prop where
  env : Aenv w h W
  le : w.heap.size + 2 ≤ kb
  ks : ∃ t fr, W.heap[kb]? = some (.cells #[.string bUid, .string bGid, .string bTime, .string bSize] t fr)
  ps : ∃ t fr, W.heap[kb + 1]? = some (.cells #[.pointer (some ⟨w.heap.size, 4, none⟩), .pointer (some ⟨w.heap.size, 5, none⟩), .pointer (some ⟨w.heap.size, 6, none⟩), .pointer (some ⟨w.heap.size, 7, none⟩)] t fr)
theorem Renv.next {w W W' : World} {kb : Nat} {h : Hd} (e : Renv w kb h W) (hb : Below W.heap.size W W') : Renv w kb h W' where
  env := e.env.next hb
  le := e.le
  ks := by
    obtain ⟨t, fr, hk⟩ := e.ks
    exact ⟨t, fr, (hb.block _ (Array.getElem?_eq_some_iff.1 hk).1).trans hk⟩
  ps := by
    obtain ⟨t, fr, hk⟩ := e.ps
    exact ⟨t, fr, (hb.block _ (Array.getElem?_eq_some_iff.1 hk).1).trans hk⟩
theorem Renv.put {w W : World} {kb : Nat} {h h' : Hd} (e : Renv w kb h W) (j : Nat) (v : Value) (hc : h.cells.setIfInBounds j v = h'.cells) : Renv w kb h' (W.setCell ⟨w.heap.size, j, none⟩ v) where
  env := e.env.put j v hc
  le := e.le
  ks := by
    obtain ⟨t, fr, hk⟩ := e.ks
    exact ⟨t, fr, (Below.heap_setCell W ⟨w.heap.size, j, none⟩ _ kb (by have := e.le; show kb ≠ w.heap.size; omega)).trans hk⟩
  ps := by
    obtain ⟨t, fr, hk⟩ := e.ps
    exact ⟨t, fr, (Below.heap_setCell W ⟨w.heap.size, j, none⟩ _ (kb + 1) (by have := e.le; show kb + 1 ≠ w.heap.size; omega)).trans hk⟩
theorem Renv.key {w W : World} {kb : Nat} {h : Hd} (e : Renv w kb h W) (j : Nat) {v : Value} (hv : (#[.string bUid, .string bGid, .string bTime, .string bSize] : Array Value)[j]? = some v) : W.cell? ⟨kb, j, none⟩ = some v := by
  obtain ⟨t, fr, hk⟩ := e.ks
  simp [World.cell?, hk, hv]
theorem Renv.ptr {w W : World} {kb : Nat} {h : Hd} (e : Renv w kb h W) (j : Nat) {v : Value} (hv : (#[.pointer (some ⟨w.heap.size, 4, none⟩), .pointer (some ⟨w.heap.size, 5, none⟩), .pointer (some ⟨w.heap.size, 6, none⟩), .pointer (some ⟨w.heap.size, 7, none⟩)] : Array Value)[j]? = some v) : W.cell? ⟨kb + 1, j, none⟩ = some v := by
  obtain ⟨t, fr, hk⟩ := e.ps
  simp [World.cell?, hk, hv]
theorem hdK_0 (h : Hd) (vu vg vt vs : ByteArray) : hdK h vu vg vt vs 0 = h := rfl
theorem hdK_1 (h : Hd) (vu vg vt vs : ByteArray) : hdK h vu vg vt vs 1 = { hdK h vu vg vt vs 0 with uid := newNum false vu h.uid } := rfl
theorem hdK_2 (h : Hd) (vu vg vt vs : ByteArray) : hdK h vu vg vt vs 2 = { hdK h vu vg vt vs 1 with gid := newNum false vg h.gid } := rfl
theorem hdK_3 (h : Hd) (vu vg vt vs : ByteArray) : hdK h vu vg vt vs 3 = { hdK h vu vg vt vs 2 with time := newNum true vt h.time } := rfl
theorem hdK_4 (h : Hd) (vu vg vt vs : ByteArray) : hdK h vu vg vt vs 4 = { hdK h vu vg vt vs 3 with size := newNum false vs h.size } := rfl
theorem newNum_nil {b : Bool} {v : ByteArray} {old : Int} (h : v.toList = []) : newNum b v old = old := by unfold newNum; rw [if_pos h]
theorem newNum_some {b : Bool} {v : ByteArray} {old : Int} {n : Nat} (h : v.toList ≠ []) (hn : numS b v = some n) : newNum b v old = n := by unfold newNum; rw [if_neg h, hn]
theorem numOk_nil {b : Bool} {v : ByteArray} (h : v.toList = []) : numOk b v = true := by unfold numOk; rw [h]; rfl
theorem numOk_some {b : Bool} {v : ByteArray} {n : Nat} (hn : numS b v = some n) : numOk b v = true := by unfold numOk; rw [hn]; simp
theorem numOk_none {b : Bool} {v : ByteArray} (h : v.toList ≠ []) (hn : numS b v = none) : numOk b v = false := by
  unfold numOk
  rw [hn]
  simpa using h
theorem whole_call (s : ByteArray) (W : World) : Calls Tryd.prog 16 #[.string s] W fun e w' => e = .returned (.tuple #[.int .i64 (numR (wholeS s.data.toList)).1, .bool (numR (wholeS s.data.toList)).2]) ∧ Below W.heap.size W w' := (bindleref01_Whole.calls 22 s _ _ W (whole_is s 22 (by decide))).mono (by
  rintro e w' ⟨rfl, hb⟩
  exact ⟨rfl, drawn_below hb⟩)
theorem seconds_call (s : ByteArray) (W : World) (hs : s.size ≤ 281474976710656) : Calls Tryd.prog 20 #[.string s] W fun e w' => e = .returned (.tuple #[.int .i64 (numR (secondsS s.data.toList)).1, .bool (numR (secondsS s.data.toList)).2]) ∧ Below W.heap.size W w' := (bindleref01_Seconds.calls (s.data.toList.length + 30) s _ _ W (seconds_is s _ (by have := Lib.size_eq s; omega) (Nat.le_refl _))).mono (by
  rintro e w' ⟨rfl, hb⟩
  exact ⟨rfl, drawn_below hb⟩)
set_option maxRecDepth 100000 in
set_option maxHeartbeats 2000000 in
theorem refapply_walk (Ag : Option Addr) (cg : Nat) (g : List S42) (A : Option Addr) (c : Nat) (own : List S42) (h : Hd) (w : World) (hgr : Kd.C k42 w Ag g.length g) (hgc : g.length ≤ cg) (hr : Kd.C k42 w A own.length own) (hc : own.length ≤ c) (hn : own.length ≤ 1000000000000000) (hg : g.length ≤ 1000000000000000) (hz : ∀ key, (valueOf g own key).size ≤ 281474976710656) :
    Calls Tryd.prog 12 #[.slice Ag g.length cg, .slice A own.length c, .agg h.cells] w fun e w' => e = .returned (applyR (applyS h (valueOf g own bPath) (valueOf g own bLink) (valueOf g own bUid) (valueOf g own bGid) (valueOf g own bTime) (valueOf g own bSize))) ∧ Below w.heap.size w w' := by
  have HG := Aside0.mk hgr
  have HR := Aside0.mk hr
  have HZ := Aside0.mk hz
  have HL := Aside0.mk (And.intro (And.intro hgc hc) (And.intro hn hg))
  have cV : ∀ (k : ByteArray) (H : Hd) (W : World), Aenv w H W → Calls Tryd.prog 14 #[.slice Ag g.length cg, .slice A own.length c, .string k] W fun e w' => e = .returned (.string (valueOf g own k)) ∧ Below W.heap.size W w' := fun k H W hE => (bindleref01_Value.calls (g.length + own.length + 1) Ag cg g A c own k (valueOf g own k) W (Kd.C_below HG.out hE.below) HL.out.1.1 (Kd.C_below HR.out hE.below) HL.out.1.2 (value_is g own k _ hg hn (Nat.le_refl _))).mono (by
    rintro e w' ⟨rfl, hb⟩
    exact ⟨rfl, drawn_below hb⟩)
  obtain ⟨rv, hrv⟩ : ∃ rv, applyR (applyS h (valueOf g own bPath) (valueOf g own bLink) (valueOf g own bUid) (valueOf g own bGid) (valueOf g own bTime) (valueOf g own bSize)) = rv := ⟨_, rfl⟩
  rw [hrv]
  have HRV := Aside0.mk hrv
  clear hrv hz hgr hr hgc hc hn hg
  obtain ⟨vp, hvp⟩ : ∃ vp, valueOf g own bPath = vp := ⟨_, rfl⟩
  obtain ⟨vl, hvl⟩ : ∃ vl, valueOf g own bLink = vl := ⟨_, rfl⟩
  have cP := cV bPath
  have cL := cV bLink
  rw [hvp] at cP
  rw [hvl] at cL
  obtain ⟨w0, hw0⟩ : ∃ w0, (w.alloc (.cells h.cells 25)).alloc (.cells Hd.zero.cells 25) = w0 := ⟨_, rfl⟩
  have E0 : Aenv w h w0 := by
    rw [← hw0]
    refine ⟨below_alloc (below_alloc (Below.refl _ _) _) _, ?_, ?_⟩
    · exact (Below.heap_alloc _ _ _ (by simp)).trans (World.alloc_heap_new w _)
    · have := World.alloc_heap_new (w.alloc (.cells h.cells 25)) (.cells Hd.zero.cells 25)
      rw [World.size_alloc] at this
      exact this
  have hcz : Hd.zero.cells = #[.string ⟨#[]⟩, .string ⟨#[]⟩, .int .u8 0, .int .i64 0, .int .i64 0, .int .i64 0, .int .i64 0, .int .i64 0, .bool false] := rfl
  rw [← hw0, hcz] at E0
  have HE0 := Aside0.mk E0
  clear E0 hw0 hcz
  have HE0 : Aside0 (Aenv w h ((w.alloc (.cells #[.string h.name, .string h.link, .int .u8 h.kind, .int .i64 h.mode, .int .i64 h.uid, .int .i64 h.gid, .int .i64 h.time, .int .i64 h.size, .bool h.gnu] 25)).alloc (.cells #[.string ⟨#[]⟩, .string ⟨#[]⟩, .int .u8 0, .int .i64 0, .int .i64 0, .int .i64 0, .int .i64 0, .int .i64 0, .bool false] 25))) := HE0
  unfold Hd.cells
  unfold bPath at cP
  unfold bLink at cL
  clear cL
  go_enter Tryd.func12, Tryd.ntmps12
  go_upto_if 20 with (go_at_call 14; with_reducible refine (cP h _ HE0.out).mono ?_; rintro e w1 ⟨rfl, hb1⟩; have HE1 := Aside0.mk (HE0.out.next hb1); clear hb1)
  generalize hqb : (!vp.toList.isEmpty) = qb
  have HQB := Aside0.mk hqb
  clear hqb
  go_cut [] (fun wc => Aside0 (Aenv w { h with name := newStr vp h.name } wc))
  case first =>
    obtain ⟨hc5, hf5⟩ := blk_at HE1.out.hd 0 rfl
    cases qb with
    | false =>
      have hv0 : vp.toList = [] := by simpa using HQB.out
      go_wp2
      go_meet
      case rel =>
        have : ({ h with name := newStr vp h.name } : Hd) = h := by unfold newStr; rw [if_pos hv0]
        rw [this]
        exact HE1
    | true =>
      have hv0 : Aside0 (vp.toList ≠ []) := ⟨by simpa using HQB.out⟩
      go_wp2
      go_meet
      case rel => exact ⟨HE1.out.put (h' := { h with name := newStr vp h.name }) 0 (.string vp) (by unfold newStr; rw [if_neg hv0.out]; rfl)⟩
  case rest =>
  clear HQB qb
  obtain ⟨h1, hh1⟩ : ∃ h1, ({ h with name := newStr vp h.name } : Hd) = h1 := ⟨_, rfl⟩
  rw [hh1] at hcut
  have HH1 := Aside0.mk hh1
  clear hh1 HE1 cP
  have cL := cV bLink
  rw [hvl] at cL
  unfold bLink at cL
  go_upto_if 27 with (go_at_call 14; go_loud (refine (cL h1 _ hcut.out).mono ?_); rintro e w2 ⟨rfl, hb1⟩; have HE1 := Aside0.mk (hcut.out.next hb1); clear hb1)
  have HCUT := hcut
  clear hcut
  generalize hqb : (!vl.toList.isEmpty) = qb
  have HQB := Aside0.mk hqb
  clear hqb
  go_cut [] (fun wc => Aside0 (Aenv w { h1 with link := newStr vl h1.link } wc))
  case first =>
    obtain ⟨hc5, hf5⟩ := blk_at HE1.out.hd 1 rfl
    cases qb with
    | false =>
      have hv0 : vl.toList = [] := by simpa using HQB.out
      go_wp2
      go_meet
      case rel =>
        have : ({ h1 with link := newStr vl h1.link } : Hd) = h1 := by unfold newStr; rw [if_pos hv0]
        rw [this]
        exact HE1
    | true =>
      have hv0 : Aside0 (vl.toList ≠ []) := ⟨by simpa using HQB.out⟩
      go_wp2
      go_meet
      case rel => exact ⟨HE1.out.put (h' := { h1 with link := newStr vl h1.link }) 1 (.string vl) (by unfold newStr; rw [if_neg hv0.out]; rfl)⟩
  case rest =>
  clear HQB qb
  obtain ⟨h2, hh2⟩ : ∃ h2, ({ h1 with link := newStr vl h1.link } : Hd) = h2 := ⟨_, rfl⟩
  rw [hh2] at hcut
  have HH2 := Aside0.mk hh2
  clear hh2 HE1 cL HCUT
  obtain ⟨vu, hvu⟩ : ∃ v, valueOf g own bUid = v := ⟨_, rfl⟩
  obtain ⟨vg, hvg⟩ : ∃ v, valueOf g own bGid = v := ⟨_, rfl⟩
  obtain ⟨vt, hvt⟩ : ∃ v, valueOf g own bTime = v := ⟨_, rfl⟩
  obtain ⟨vs, hvs⟩ : ∃ v, valueOf g own bSize = v := ⟨_, rfl⟩
  have c0 := cV bUid
  have c1 := cV bGid
  have c2 := cV bTime
  have c3 := cV bSize
  rw [hvu] at c0
  rw [hvg] at c1
  rw [hvt] at c2
  rw [hvs] at c3
  have hzt : vt.size ≤ 281474976710656 := by rw [← hvt]; exact HZ.out bTime
  have cS := fun W => seconds_call vt W hzt
  have HRV2 : Aside0 (applyR (applyS h vp vl vu vg vt vs) = rv) := ⟨by rw [← HRV.out, hvp, hvl, hvu, hvg, hvt, hvs]⟩
  clear HRV hvp hvl hvu hvg hvt hvs cV hzt
  have R0 : Renv w wc.heap.size (hdK h2 vu vg vt vs 0) ((wc.alloc (.cells #[.string bUid, .string bGid, .string bTime, .string bSize] 9)).alloc (.cells #[.pointer (some ⟨w.heap.size, 4, none⟩), .pointer (some ⟨w.heap.size, 5, none⟩), .pointer (some ⟨w.heap.size, 6, none⟩), .pointer (some ⟨w.heap.size, 7, none⟩)] 55)) := by
    refine ⟨hcut.out.next (below_alloc (below_alloc (Below.refl _ _) _) _), ?_, ⟨_, _, (Below.heap_alloc _ _ _ (by simp)).trans (World.alloc_heap_new wc _)⟩, ⟨55, (0, 0), ?_⟩⟩
    · have := (Array.getElem?_eq_some_iff.1 hcut.out.res).1
      omega
    · have := World.alloc_heap_new (wc.alloc (.cells #[.string bUid, .string bGid, .string bTime, .string bSize] 9)) (.cells #[.pointer (some ⟨w.heap.size, 4, none⟩), .pointer (some ⟨w.heap.size, 5, none⟩), .pointer (some ⟨w.heap.size, 6, none⟩), .pointer (some ⟨w.heap.size, 7, none⟩)] 55)
      rw [World.size_alloc] at this
      exact this
  have HR0 := Aside0.mk R0
  clear R0 hcut
  go_wp2
  go_loopw [12] (fun i wr => ∃ k : Nat, i = .int .i64 (k : Int) ∧ k ≤ 4 ∧ Aside0 (Renv w wc.heap.size (hdK h2 vu vg vt vs k) wr) ∧ Aside0 (okK vu vg vt vs k)) (fun i _ => (4 - intOf i).toNat)
  case atStart => exact ⟨0, rfl, by omega, HR0, ⟨⟨fun h => absurd h (by decide), fun h => absurd h (by decide), fun h => absurd h (by decide), fun h => absurd h (by decide)⟩⟩⟩
  case round =>
    clear HR0
    obtain ⟨k, rfl, hk, hE, hok⟩ := hrel
    have hk' : k = 0 ∨ k = 1 ∨ k = 2 ∨ k = 3 ∨ k = 4 := by omega
    clear hk
    rcases hk' with rfl | rfl | rfl | rfl | rfl
    · rw [show ((0 : Nat) : Int) = 0 from rfl]
      have hx0 := hE.out.key 0 rfl
      have hkt : (bUid.toList == [109, 116, 105, 109, 101]) = false := by decide +kernel
      by_cases hv0 : vu.toList = []
      · have hq : (vu.toList == []) = true := by rw [hv0]; rfl
        go_wp2_with (go_at_call 14; refine (c0 _ _ hE.out.env).mono ?_; rintro e y5 ⟨rfl, hb5⟩; have hE5 := Aside0.mk (hE.out.next hb5); have hx5 := hE5.out.key 0 rfl; clear hb5)
        go_roundw
        case rel => exact ⟨1, rfl, by decide, ⟨by rw [hdK_1, newNum_nil hv0]; exact hE5.out⟩, ⟨⟨fun _ => numOk_nil hv0, fun h => absurd h (by decide), fun h => absurd h (by decide), fun h => absurd h (by decide)⟩⟩⟩
        case measure => simp [intOf]
      · have hq : (vu.toList == []) = false := by simpa using hv0
        have HV0 := Aside0.mk hv0
        clear hv0
        cases hnum : numS false vu with
        | some n =>
          have hnS : wholeS vu.data.toList = some n := hnum
          have HNUM := Aside0.mk hnum
          clear hnum
          go_wp2_with (first
            | (go_at_call 14; refine (c0 _ _ hE.out.env).mono ?_; rintro e y5 ⟨rfl, hb5⟩; have hE5 := Aside0.mk (hE.out.next hb5); have hx5 := hE5.out.key 0 rfl; clear hb5)
            | (go_at_call 16; refine (whole_call vu _).mono ?_; rintro e y6 ⟨rfl, hb6⟩; rw [hnS]; have hE6 := Aside0.mk (hE5.out.next hb6); have hx6 := hE6.out.key 0 rfl; have hp6 := hE6.out.ptr 0 rfl; obtain ⟨hc9, hf9⟩ := blk_at hE6.out.env.hd 4 rfl; clear hb6))
          go_roundw
          case rel => exact ⟨1, rfl, by decide, ⟨hE6.out.put (h' := hdK h2 vu vg vt vs 1) 4 (.int .i64 (n : Int)) (by rw [hdK_1, newNum_some HV0.out HNUM.out]; rfl)⟩, ⟨⟨fun _ => numOk_some HNUM.out, fun h => absurd h (by decide), fun h => absurd h (by decide), fun h => absurd h (by decide)⟩⟩⟩
          case measure => simp [intOf]
        | none =>
          have hnS : wholeS vu.data.toList = none := hnum
          have HNO : Aside0 (rv = applyR none) := ⟨by rw [← HRV2.out]; unfold applyS; rw [numOk_none HV0.out hnum]; simp⟩
          clear hnum
          go_wp2_with (first
            | (go_at_call 14; refine (c0 _ _ hE.out.env).mono ?_; rintro e y5 ⟨rfl, hb5⟩; have hE5 := Aside0.mk (hE.out.next hb5); have hx5 := hE5.out.key 0 rfl; clear hb5)
            | (go_at_call 16; refine (whole_call vu _).mono ?_; rintro e y6 ⟨rfl, hb6⟩; rw [hnS]; have hE6 := Aside0.mk (hE5.out.next hb6); have hx6 := hE6.out.key 0 rfl; have hp6 := hE6.out.ptr 0 rfl; obtain ⟨hr0, hrf0⟩ := blk_at hE6.out.env.res 0 rfl; obtain ⟨hr1, hrf1⟩ := blk_at hE6.out.env.res 1 rfl; obtain ⟨hr2, hrf2⟩ := blk_at hE6.out.env.res 2 rfl; obtain ⟨hr3, hrf3⟩ := blk_at hE6.out.env.res 3 rfl; obtain ⟨hr4, hrf4⟩ := blk_at hE6.out.env.res 4 rfl; obtain ⟨hr5, hrf5⟩ := blk_at hE6.out.env.res 5 rfl; obtain ⟨hr6, hrf6⟩ := blk_at hE6.out.env.res 6 rfl; obtain ⟨hr7, hrf7⟩ := blk_at hE6.out.env.res 7 rfl; obtain ⟨hr8, hrf8⟩ := blk_at hE6.out.env.res 8 rfl; clear hb6))
          obtain ⟨hw1, hw2⟩ := res_put Hd.zero hE6.out.env.below hE6.out.env.res
          exact bodyPost_ret (results_ct rfl _ _ _ _ Hd.zero.cells (0, 0) _ rfl hw1 Tryd.underlying25 rfl head_info) rfl ⟨by rw [HNO.out]; rfl, hw2⟩
    · rw [show ((1 : Nat) : Int) = 1 from rfl]
      have hx0 := hE.out.key 1 rfl
      have hkt : (bGid.toList == [109, 116, 105, 109, 101]) = false := by decide +kernel
      by_cases hv0 : vg.toList = []
      · have hq : (vg.toList == []) = true := by rw [hv0]; rfl
        go_wp2_with (go_at_call 14; refine (c1 _ _ hE.out.env).mono ?_; rintro e y5 ⟨rfl, hb5⟩; have hE5 := Aside0.mk (hE.out.next hb5); have hx5 := hE5.out.key 1 rfl; clear hb5)
        go_roundw
        case rel => exact ⟨2, rfl, by decide, ⟨by rw [hdK_2, newNum_nil hv0]; exact hE5.out⟩, ⟨⟨fun _ => hok.out.1 (by decide), fun _ => numOk_nil hv0, fun h => absurd h (by decide), fun h => absurd h (by decide)⟩⟩⟩
        case measure => simp [intOf]
      · have hq : (vg.toList == []) = false := by simpa using hv0
        have HV0 := Aside0.mk hv0
        clear hv0
        cases hnum : numS false vg with
        | some n =>
          have hnS : wholeS vg.data.toList = some n := hnum
          have HNUM := Aside0.mk hnum
          clear hnum
          go_wp2_with (first
            | (go_at_call 14; refine (c1 _ _ hE.out.env).mono ?_; rintro e y5 ⟨rfl, hb5⟩; have hE5 := Aside0.mk (hE.out.next hb5); have hx5 := hE5.out.key 1 rfl; clear hb5)
            | (go_at_call 16; refine (whole_call vg _).mono ?_; rintro e y6 ⟨rfl, hb6⟩; rw [hnS]; have hE6 := Aside0.mk (hE5.out.next hb6); have hx6 := hE6.out.key 1 rfl; have hp6 := hE6.out.ptr 1 rfl; obtain ⟨hc9, hf9⟩ := blk_at hE6.out.env.hd 5 rfl; clear hb6))
          go_roundw
          case rel => exact ⟨2, rfl, by decide, ⟨hE6.out.put (h' := hdK h2 vu vg vt vs 2) 5 (.int .i64 (n : Int)) (by rw [hdK_2, newNum_some HV0.out HNUM.out]; rfl)⟩, ⟨⟨fun _ => hok.out.1 (by decide), fun _ => numOk_some HNUM.out, fun h => absurd h (by decide), fun h => absurd h (by decide)⟩⟩⟩
          case measure => simp [intOf]
        | none =>
          have hnS : wholeS vg.data.toList = none := hnum
          have HNO : Aside0 (rv = applyR none) := ⟨by rw [← HRV2.out]; unfold applyS; rw [numOk_none HV0.out hnum]; simp⟩
          clear hnum
          go_wp2_with (first
            | (go_at_call 14; refine (c1 _ _ hE.out.env).mono ?_; rintro e y5 ⟨rfl, hb5⟩; have hE5 := Aside0.mk (hE.out.next hb5); have hx5 := hE5.out.key 1 rfl; clear hb5)
            | (go_at_call 16; refine (whole_call vg _).mono ?_; rintro e y6 ⟨rfl, hb6⟩; rw [hnS]; have hE6 := Aside0.mk (hE5.out.next hb6); have hx6 := hE6.out.key 1 rfl; have hp6 := hE6.out.ptr 1 rfl; obtain ⟨hr0, hrf0⟩ := blk_at hE6.out.env.res 0 rfl; obtain ⟨hr1, hrf1⟩ := blk_at hE6.out.env.res 1 rfl; obtain ⟨hr2, hrf2⟩ := blk_at hE6.out.env.res 2 rfl; obtain ⟨hr3, hrf3⟩ := blk_at hE6.out.env.res 3 rfl; obtain ⟨hr4, hrf4⟩ := blk_at hE6.out.env.res 4 rfl; obtain ⟨hr5, hrf5⟩ := blk_at hE6.out.env.res 5 rfl; obtain ⟨hr6, hrf6⟩ := blk_at hE6.out.env.res 6 rfl; obtain ⟨hr7, hrf7⟩ := blk_at hE6.out.env.res 7 rfl; obtain ⟨hr8, hrf8⟩ := blk_at hE6.out.env.res 8 rfl; clear hb6))
          obtain ⟨hw1, hw2⟩ := res_put Hd.zero hE6.out.env.below hE6.out.env.res
          exact bodyPost_ret (results_ct rfl _ _ _ _ Hd.zero.cells (0, 0) _ rfl hw1 Tryd.underlying25 rfl head_info) rfl ⟨by rw [HNO.out]; rfl, hw2⟩
    · rw [show ((2 : Nat) : Int) = 2 from rfl]
      have hx0 := hE.out.key 2 rfl
      have hkt : (bTime.toList == [109, 116, 105, 109, 101]) = true := by decide +kernel
      by_cases hv0 : vt.toList = []
      · have hq : (vt.toList == []) = true := by rw [hv0]; rfl
        go_wp2_with (go_at_call 14; refine (c2 _ _ hE.out.env).mono ?_; rintro e y5 ⟨rfl, hb5⟩; have hE5 := Aside0.mk (hE.out.next hb5); have hx5 := hE5.out.key 2 rfl; clear hb5)
        go_roundw
        case rel => exact ⟨3, rfl, by decide, ⟨by rw [hdK_3, newNum_nil hv0]; exact hE5.out⟩, ⟨⟨fun _ => hok.out.1 (by decide), fun _ => hok.out.2.1 (by decide), fun _ => numOk_nil hv0, fun h => absurd h (by decide)⟩⟩⟩
        case measure => simp [intOf]
      · have hq : (vt.toList == []) = false := by simpa using hv0
        have HV0 := Aside0.mk hv0
        clear hv0
        cases hnum : numS true vt with
        | some n =>
          have hnS : secondsS vt.data.toList = some n := hnum
          have HNUM := Aside0.mk hnum
          clear hnum
          go_wp2_with (first
            | (go_at_call 14; refine (c2 _ _ hE.out.env).mono ?_; rintro e y5 ⟨rfl, hb5⟩; have hE5 := Aside0.mk (hE.out.next hb5); have hx5 := hE5.out.key 2 rfl; clear hb5)
            | (go_at_call 16; refine (whole_call vt _).mono ?_; rintro e y6 ⟨rfl, hb6⟩; have hE6 := Aside0.mk (hE5.out.next hb6); have hx6 := hE6.out.key 2 rfl; clear hb6)
            | (go_at_call 20; refine (cS _).mono ?_; rintro e y7 ⟨rfl, hb7⟩; rw [hnS]; have hE7 := Aside0.mk (hE6.out.next hb7); have hp7 := hE7.out.ptr 2 rfl; obtain ⟨hc9, hf9⟩ := blk_at hE7.out.env.hd 6 rfl; clear hb7))
          go_roundw
          case rel => exact ⟨3, rfl, by decide, ⟨hE7.out.put (h' := hdK h2 vu vg vt vs 3) 6 (.int .i64 (n : Int)) (by rw [hdK_3, newNum_some HV0.out HNUM.out]; rfl)⟩, ⟨⟨fun _ => hok.out.1 (by decide), fun _ => hok.out.2.1 (by decide), fun _ => numOk_some HNUM.out, fun h => absurd h (by decide)⟩⟩⟩
          case measure => simp [intOf]
        | none =>
          have hnS : secondsS vt.data.toList = none := hnum
          have HNO : Aside0 (rv = applyR none) := ⟨by rw [← HRV2.out]; unfold applyS; rw [numOk_none HV0.out hnum]; simp⟩
          clear hnum
          go_wp2_with (first
            | (go_at_call 14; refine (c2 _ _ hE.out.env).mono ?_; rintro e y5 ⟨rfl, hb5⟩; have hE5 := Aside0.mk (hE.out.next hb5); have hx5 := hE5.out.key 2 rfl; clear hb5)
            | (go_at_call 16; refine (whole_call vt _).mono ?_; rintro e y6 ⟨rfl, hb6⟩; have hE6 := Aside0.mk (hE5.out.next hb6); have hx6 := hE6.out.key 2 rfl; clear hb6)
            | (go_at_call 20; refine (cS _).mono ?_; rintro e y7 ⟨rfl, hb7⟩; rw [hnS]; have hE7 := Aside0.mk (hE6.out.next hb7); have hp7 := hE7.out.ptr 2 rfl; obtain ⟨hr0, hrf0⟩ := blk_at hE7.out.env.res 0 rfl; obtain ⟨hr1, hrf1⟩ := blk_at hE7.out.env.res 1 rfl; obtain ⟨hr2, hrf2⟩ := blk_at hE7.out.env.res 2 rfl; obtain ⟨hr3, hrf3⟩ := blk_at hE7.out.env.res 3 rfl; obtain ⟨hr4, hrf4⟩ := blk_at hE7.out.env.res 4 rfl; obtain ⟨hr5, hrf5⟩ := blk_at hE7.out.env.res 5 rfl; obtain ⟨hr6, hrf6⟩ := blk_at hE7.out.env.res 6 rfl; obtain ⟨hr7, hrf7⟩ := blk_at hE7.out.env.res 7 rfl; obtain ⟨hr8, hrf8⟩ := blk_at hE7.out.env.res 8 rfl; clear hb7))
          obtain ⟨hw1, hw2⟩ := res_put Hd.zero hE7.out.env.below hE7.out.env.res
          exact bodyPost_ret (results_ct rfl _ _ _ _ Hd.zero.cells (0, 0) _ rfl hw1 Tryd.underlying25 rfl head_info) rfl ⟨by rw [HNO.out]; rfl, hw2⟩
    · rw [show ((3 : Nat) : Int) = 3 from rfl]
      have hx0 := hE.out.key 3 rfl
      have hkt : (bSize.toList == [109, 116, 105, 109, 101]) = false := by decide +kernel
      by_cases hv0 : vs.toList = []
      · have hq : (vs.toList == []) = true := by rw [hv0]; rfl
        go_wp2_with (go_at_call 14; refine (c3 _ _ hE.out.env).mono ?_; rintro e y5 ⟨rfl, hb5⟩; have hE5 := Aside0.mk (hE.out.next hb5); have hx5 := hE5.out.key 3 rfl; clear hb5)
        go_roundw
        case rel => exact ⟨4, rfl, by decide, ⟨by rw [hdK_4, newNum_nil hv0]; exact hE5.out⟩, ⟨⟨fun _ => hok.out.1 (by decide), fun _ => hok.out.2.1 (by decide), fun _ => hok.out.2.2.1 (by decide), fun _ => numOk_nil hv0⟩⟩⟩
        case measure => simp [intOf]
      · have hq : (vs.toList == []) = false := by simpa using hv0
        have HV0 := Aside0.mk hv0
        clear hv0
        cases hnum : numS false vs with
        | some n =>
          have hnS : wholeS vs.data.toList = some n := hnum
          have HNUM := Aside0.mk hnum
          clear hnum
          go_wp2_with (first
            | (go_at_call 14; refine (c3 _ _ hE.out.env).mono ?_; rintro e y5 ⟨rfl, hb5⟩; have hE5 := Aside0.mk (hE.out.next hb5); have hx5 := hE5.out.key 3 rfl; clear hb5)
            | (go_at_call 16; refine (whole_call vs _).mono ?_; rintro e y6 ⟨rfl, hb6⟩; rw [hnS]; have hE6 := Aside0.mk (hE5.out.next hb6); have hx6 := hE6.out.key 3 rfl; have hp6 := hE6.out.ptr 3 rfl; obtain ⟨hc9, hf9⟩ := blk_at hE6.out.env.hd 7 rfl; clear hb6))
          go_roundw
          case rel => exact ⟨4, rfl, by decide, ⟨hE6.out.put (h' := hdK h2 vu vg vt vs 4) 7 (.int .i64 (n : Int)) (by rw [hdK_4, newNum_some HV0.out HNUM.out]; rfl)⟩, ⟨⟨fun _ => hok.out.1 (by decide), fun _ => hok.out.2.1 (by decide), fun _ => hok.out.2.2.1 (by decide), fun _ => numOk_some HNUM.out⟩⟩⟩
          case measure => simp [intOf]
        | none =>
          have hnS : wholeS vs.data.toList = none := hnum
          have HNO : Aside0 (rv = applyR none) := ⟨by rw [← HRV2.out]; unfold applyS; rw [numOk_none HV0.out hnum]; simp⟩
          clear hnum
          go_wp2_with (first
            | (go_at_call 14; refine (c3 _ _ hE.out.env).mono ?_; rintro e y5 ⟨rfl, hb5⟩; have hE5 := Aside0.mk (hE.out.next hb5); have hx5 := hE5.out.key 3 rfl; clear hb5)
            | (go_at_call 16; refine (whole_call vs _).mono ?_; rintro e y6 ⟨rfl, hb6⟩; rw [hnS]; have hE6 := Aside0.mk (hE5.out.next hb6); have hx6 := hE6.out.key 3 rfl; have hp6 := hE6.out.ptr 3 rfl; obtain ⟨hr0, hrf0⟩ := blk_at hE6.out.env.res 0 rfl; obtain ⟨hr1, hrf1⟩ := blk_at hE6.out.env.res 1 rfl; obtain ⟨hr2, hrf2⟩ := blk_at hE6.out.env.res 2 rfl; obtain ⟨hr3, hrf3⟩ := blk_at hE6.out.env.res 3 rfl; obtain ⟨hr4, hrf4⟩ := blk_at hE6.out.env.res 4 rfl; obtain ⟨hr5, hrf5⟩ := blk_at hE6.out.env.res 5 rfl; obtain ⟨hr6, hrf6⟩ := blk_at hE6.out.env.res 6 rfl; obtain ⟨hr7, hrf7⟩ := blk_at hE6.out.env.res 7 rfl; obtain ⟨hr8, hrf8⟩ := blk_at hE6.out.env.res 8 rfl; clear hb6))
          obtain ⟨hw1, hw2⟩ := res_put Hd.zero hE6.out.env.below hE6.out.env.res
          exact bodyPost_ret (results_ct rfl _ _ _ _ Hd.zero.cells (0, 0) _ rfl hw1 Tryd.underlying25 rfl head_info) rfl ⟨by rw [HNO.out]; rfl, hw2⟩
    · rw [show ((4 : Nat) : Int) = 4 from rfl]
      obtain ⟨h3, hh3⟩ : ∃ h3, hdK h2 vu vg vt vs 4 = h3 := ⟨_, rfl⟩
      have hE9 : Aenv w h3 wr := by rw [← hh3]; exact hE.out.env
      have hall : (numOk false vu && numOk false vg && numOk true vt && numOk false vs) = true := by
        rw [hok.out.1 (by decide), hok.out.2.1 (by decide), hok.out.2.2.1 (by decide), hok.out.2.2.2 (by decide)]
        rfl
      have HEND : Aside0 (rv = applyR (some h3)) := ⟨by rw [← HRV2.out]; unfold applyS; rw [if_pos hall, ← hh3, ← HH2.out, ← HH1.out]; rfl⟩
      clear hh3 hall hok hE HRV2
      obtain ⟨hr0, hrf0⟩ := blk_at hE9.res 0 rfl
      obtain ⟨hd0, hdf0⟩ := blk_at (v := .string h3.name) hE9.hd 0 rfl
      obtain ⟨hr1, hrf1⟩ := blk_at hE9.res 1 rfl
      obtain ⟨hd1, hdf1⟩ := blk_at (v := .string h3.link) hE9.hd 1 rfl
      obtain ⟨hr2, hrf2⟩ := blk_at hE9.res 2 rfl
      obtain ⟨hd2, hdf2⟩ := blk_at (v := .int .u8 h3.kind) hE9.hd 2 rfl
      obtain ⟨hr3, hrf3⟩ := blk_at hE9.res 3 rfl
      obtain ⟨hd3, hdf3⟩ := blk_at (v := .int .i64 h3.mode) hE9.hd 3 rfl
      obtain ⟨hr4, hrf4⟩ := blk_at hE9.res 4 rfl
      obtain ⟨hd4, hdf4⟩ := blk_at (v := .int .i64 h3.uid) hE9.hd 4 rfl
      obtain ⟨hr5, hrf5⟩ := blk_at hE9.res 5 rfl
      obtain ⟨hd5, hdf5⟩ := blk_at (v := .int .i64 h3.gid) hE9.hd 5 rfl
      obtain ⟨hr6, hrf6⟩ := blk_at hE9.res 6 rfl
      obtain ⟨hd6, hdf6⟩ := blk_at (v := .int .i64 h3.time) hE9.hd 6 rfl
      obtain ⟨hr7, hrf7⟩ := blk_at hE9.res 7 rfl
      obtain ⟨hd7, hdf7⟩ := blk_at (v := .int .i64 h3.size) hE9.hd 7 rfl
      obtain ⟨hr8, hrf8⟩ := blk_at hE9.res 8 rfl
      obtain ⟨hd8, hdf8⟩ := blk_at (v := .bool h3.gnu) hE9.hd 8 rfl
      go_wp2
      obtain ⟨hw1, hw2⟩ := res_put h3 hE9.below hE9.res
      exact bodyPost_ret (results_ct rfl _ _ _ _ h3.cells (0, 0) _ rfl hw1 Tryd.underlying25 rfl head_info) rfl ⟨by rw [HEND.out]; rfl, hw2⟩
end Go.Proofs.YtehfblmconkdhaaDoor.Q
