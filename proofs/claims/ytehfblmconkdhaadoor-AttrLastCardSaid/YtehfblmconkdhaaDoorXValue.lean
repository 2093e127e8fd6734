/- attr.State.Value: the last of one's own records with the key counts, else the state's last. -/
import Derived.Test.YtehfblmconkdhaaDoorXBack
namespace Go.Proofs.YtehfblmconkdhaaDoor.Q
open Go.RowKit Go.Proofs.YtehfblmconkdhaaDoorW.PrintWords Go.Proofs.YtehfblmconkdhaaDoorW.PrintLast Go.Proofs.YtehfblmconkdhaaDoorW.PrintMore
set_option linter.unusedVariables false
set_option linter.unusedSimpArgs false
attribute [local go_sem] Oper.semAt_some
theorem back_call (A : Option Addr) (m c : Nat) (w : World) :
    Calls Tryd.prog 21 #[.slice A m c] w fun e w' => e = .returned (.func (.func 29) #[] #[.pointer (some ⟨w.heap.size, 0, none⟩)]) ∧ w' = w.alloc (.cells #[.slice A m c] 27) := by
  go_enter Tryd.func21, Tryd.ntmps21
  go_wp2
  go_ret
  exact ⟨rfl, rfl⟩
/-- A function that leaves with one mark, or two. -/
theorem leave_none {F : Fence} {n : Nat} {P : Program} {fn : Func} {tmps : Array Value} {R : Ending → World → Prop} {w : World} {v : Value} (hr : (results fn tmps).run P w = .ok v w) (hR : R (.returned v) w) : LeavesInM F n P fn tmps R [] .returning w := ⟨v, hr, hR⟩
theorem leave_mark {F : Fence} {n : Nat} {P : Program} {fn : Func} {tmps : Array Value} {R : Ending → World → Prop} {w : World} {D : Nat} {ds : List Deferred} (h : w.heap[D]? = some (.deferred (some [])))
    (hr : LeavesInM F n P fn tmps R ds .returning (w.putObj D (.deferred none))) : LeavesInM F n P fn tmps R ({ target := .collected D, args := #[] } :: ds) .returning w :=
  ⟨by simp, .inl ⟨D, _, rfl, run_takeDeferred h, hr⟩⟩
theorem results_string {P : Program} {fn : Func} {p : Tmp} {ty : TypeId} (h : fn.results = #[.cell p ty]) (ha : ∀ w, (isAgg ty).run P w = .ok false w) (tmps : Array Value) (w : World) (g : Nat) (s : ByteArray)
    (hp : tmps.getD p undef = .pointer (some ⟨g, 0, none⟩)) (hc : w.cell? ⟨g, 0, none⟩ = some (.string s)) : (results fn tmps).run P w = .ok (.string s) w := by
  have hp' : tmps[p]?.getD undef = .pointer (some ⟨g, 0, none⟩) := by simpa using hp
  simp [results, h, hp', asAddr, loadVar, ha, hc]
def isKey (key : ByteArray) (x : Int × S42) : Bool := x.2.f0.toList == key.toList
/-- The last record with this key. -/
def lastOf (l : List S42) (key : ByteArray) : Option ByteArray := ((backN l l.length).find? (isKey key)).map (·.2.f1)
/-- What the two loops find in a world: one's own blocks, the key's box, the result's, the iterator's. -/
structure Env (w0 : World) (kb rb bb : Nat) (key rv : ByteArray) (A : Option Addr) (m c : Nat) (W : World) : Prop where
  below : Below w0.heap.size w0 W
  k : Boxed W kb 9 (.string key)
  r : Boxed W rb 9 (.string rv)
  b : Boxed W bb 27 (.slice A m c)
theorem Env.turn {w0 w : World} {kb rb bb : Nat} {key rv : ByteArray} {A : Option Addr} {m c : Nat} {U V : World} (h : Env w0 kb rb bb key rv A m c U) (t : Turn none w.heap.size U V) (h2 : w0.heap.size ≤ w.heap.size) : Env w0 kb rb bb key rv A m c V where
  below := h.below.trans ⟨t.os, t.tape, t.output, t.size, fun i hi => by
    have hlt : i < U.heap.size := Nat.lt_of_lt_of_le hi h.below.size
    rw [t.keep i _ (Array.getElem?_eq_getElem hlt) (by simp) (.inl (by omega)), Array.getElem?_eq_getElem hlt]⟩
  k := t.keep _ _ h.k (by simp) (.inr rfl)
  r := t.keep _ _ h.r (by simp) (.inr rfl)
  b := t.keep _ _ h.b (by simp) (.inr rfl)
theorem Env.set {w0 : World} {kb rb bb : Nat} {key rv : ByteArray} {A : Option Addr} {m c : Nat} {U : World} (h : Env w0 kb rb bb key rv A m c U) (v : ByteArray) (h0 : w0.heap.size ≤ rb) (h1 : kb ≠ rb) (h2 : bb ≠ rb) : Env w0 kb rb bb key v A m c (U.setCell ⟨rb, 0, none⟩ (.string v)) where
  below := below_set h.below h0
  k := (Below.heap_setCell U ⟨rb, 0, none⟩ _ kb h1).trans h.k
  r := blk_put (cs := #[.string rv]) h.r 0 _ rfl
  b := (Below.heap_setCell U ⟨rb, 0, none⟩ _ bb h2).trans h.b
theorem find_pre {l pre rest : List (Int × S42)} {x : Int × S42} {q : Int × S42 → Bool} (hl : pre ++ x :: rest = l) (hp : pre.all (fun y => !q y) = true) (hx : q x = true) : l.find? q = some x := by
  subst hl
  rw [List.find?_append, List.find?_eq_none.2 (fun y hy => by
    have := List.all_eq_true.1 hp y hy
    simpa using this)]
  simp [hx]
theorem find_none {l : List (Int × S42)} {q : Int × S42 → Bool} (hp : l.all (fun y => !q y) = true) : l.find? q = none := List.find?_eq_none.2 (fun y hy => by
    have := List.all_eq_true.1 hp y hy
    simpa using this)
def noKey (key : ByteArray) (pre : List (Int × S42)) : Prop := pre.all (fun y => !isKey key y) = true
/-- What counts of a key. -/
def valueOf (g own : List S42) (key : ByteArray) : ByteArray := ((lastOf own key).orElse fun _ => lastOf g key).getD ⟨#[]⟩
/-- A state pointer that comes in: none, or its records. -/
def StateIn (w : World) (sp : Option Addr) (g : List S42) : Prop := (sp = none ∧ g = []) ∨ ∃ a Ag cg, sp = some a ∧ w.cell? a = some (.slice Ag g.length cg) ∧ Kd.C k42 w Ag g.length g
set_option maxRecDepth 100000 in
set_option maxHeartbeats 4000000 in
theorem value_walk (sp : Option Addr) (g : List S42) (key : ByteArray) (A : Option Addr) (c : Nat) (own : List S42) (w : World) (hS : StateIn w sp g) (hr : Kd.C k42 w A own.length own) (hn : own.length ≤ 1000000000000000) (hg : g.length ≤ 1000000000000000) :
    Calls Tryd.prog 13 #[.pointer sp, .string key, .slice A own.length c] w fun e w' => e = .returned (.string (valueOf g own key)) ∧ Below w.heap.size w w' := by
  obtain ⟨r, hval⟩ : ∃ r, valueOf g own key = r := ⟨_, rfl⟩
  rw [hval]
  have HV := Aside0.mk hval
  clear hval
  refine (callsIn_wide (n := 5)).1 (callsIn_of_wp_marks Tryd.func13 rfl trivial ?_ rfl)
  simp only [Tryd.ntmps13, List.size_toArray, List.length_cons, List.length_nil, Nat.reduceAdd, Nat.reduceSub, Array.replicate_succ, Array.replicate_zero, List.push_toArray, List.append_toArray, List.nil_append, List.cons_append]
  have HR := Aside0.mk hr
  have HS := Aside0.mk hS
  have cB : ∀ (A : Option Addr) (m c : Nat) (W : World), CallsIn Fence.wide 4 Tryd.prog 21 #[.slice A m c] W fun e w' => e = .returned (.func (.func 29) #[] #[.pointer (some ⟨W.heap.size, 0, none⟩)]) ∧ w' = W.alloc (.cells #[.slice A m c] 27) := fun A m c W => callsIn_wide.2 (back_call A m c W)
  clear hr hS
  gi_wp2_with (refine ⟨trivial, ?_⟩; gi_at_call 21; refine (cB _ _ _ _).mono ?_; rintro e w' ⟨rfl, rfl⟩)
  obtain ⟨w3, hw3⟩ : ∃ w3, ((w.alloc (.cells #[.string key] 9)).alloc (.cells #[.string ⟨#[]⟩] 9)).alloc (.cells #[.slice A own.length c] 27) = w3 := ⟨_, rfl⟩
  have hsz : w3.heap.size = w.heap.size + 3 := by rw [← hw3]; simp
  have hE3 : Env w w.heap.size (w.heap.size + 1) (w.heap.size + 2) key ⟨#[]⟩ A own.length c w3 := by
    rw [← hw3]
    refine ⟨below_alloc (below_alloc (below_alloc (Below.refl _ _) _) _) _, ?_, ?_, ?_⟩
    · exact (Below.heap_alloc _ _ _ (by simp <;> omega)).trans ((Below.heap_alloc _ _ _ (by simp)).trans (World.alloc_heap_new w _))
    · have := World.alloc_heap_new (w.alloc (.cells #[.string key] 9)) (.cells #[.string ⟨#[]⟩] 9)
      rw [World.size_alloc] at this
      exact (Below.heap_alloc _ _ _ (by simp)).trans this
    · have := World.alloc_heap_new ((w.alloc (.cells #[.string key] 9)).alloc (.cells #[.string ⟨#[]⟩] 9)) (.cells #[.slice A own.length c] 27)
      rw [World.size_alloc, World.size_alloc] at this
      exact this
  rw [hw3]
  refine range_func encR rfl (by decide) (gf := 29) (lb := #[.pointer (some ⟨w.heap.size + 2, 0, none⟩)]) rfl trivial (enters_of Tryd.func29 (by kernel_rfl) rfl)
    (fun _ => rfl) none (by simp) [] (by simp) (backN own own.length)
    (fun pre W => Env w w.heap.size (w.heap.size + 1) (w.heap.size + 2) key ⟨#[]⟩ A own.length c W ∧ noKey key pre)
    (fun pre W => ∃ pre' x rest, pre' ++ x :: rest = backN own own.length ∧ noKey key pre' ∧ isKey key x = true ∧ Env w w.heap.size (w.heap.size + 1) (w.heap.size + 2) key x.2.f1 A own.length c W)
    (fun pre U V h t => ⟨h.1.turn t (by omega), h.2⟩)
    (fun pre U V h t => by
      obtain ⟨pre', x, rest, h1, h2, h3, h4⟩ := h
      exact ⟨pre', x, rest, h1, h2, h3, h4.turn t (by omega)⟩)
    ?hiter ⟨hE3, rfl⟩ (fun pre x a2 W => Env w w.heap.size (w.heap.size + 1) (w.heap.size + 2) key ⟨#[]⟩ A own.length c W ∧ noKey key pre ∧ ∃ vb, W.heap[vb]? = some (.cells #[.string x.2.f0, .string x.2.f1] 42 (0, 0)) ∧ a2 = { tmps := #[.pointer sp, .string key, .slice A own.length c, undef, .pointer (some ⟨w.heap.size, 0, none⟩), undef, .pointer (some ⟨w.heap.size + 1, 0, none⟩), undef, .pointer (some ⟨vb, 0, none⟩), undef, undef, .slice A own.length c, .func (.func 29) #[] #[.pointer (some ⟨w.heap.size + 1 + 1, 0, none⟩)], .int .i64 x.1, .agg #[.string x.2.f0, .string x.2.f1], undef, undef, undef, undef, undef, undef, undef, undef, undef, undef, undef, undef, undef, undef, undef, undef, undef, undef, undef, undef, undef], defers := [] }) ?hM ?hassign ?hbody ?hdone ?hstop
  case hM =>
    rintro pre x a2 U V ⟨h1, h2, vb, h3, h4⟩ t
    exact ⟨h1.turn t (by omega), h2, vb, t.keep _ _ h3 (by simp) (.inr rfl), h4⟩
  case hiter =>
    intro l W J Jx hT hJI hset _ _ hY h0
    exact back_iter (5 - 1) l (w.heap.size + 2) A c own hn J Jx (fun pre U hU => ⟨(hJI _ _ hU).1.b.cell, reads_of_C (Kd.C_below HR.out (hJI _ _ hU).1.below)⟩) hY W h0
  case hassign =>
    rintro l pre x rest W hpx ⟨hE, hno⟩
    have HE := Aside0.mk hE
    have HNO := Aside0.mk hno
    clear hE hno
    have e0 : ((#[13, 14] : Array Tmp).zip (encR x)).foldl (fun t (p, v) => t.setIfInBounds p v) #[.pointer sp, .string key, .slice A own.length c, undef, .pointer (some ⟨w.heap.size, 0, none⟩), undef, .pointer (some ⟨w.heap.size + 1, 0, none⟩), undef, undef, undef, undef, .slice A own.length c, .func (.func 29) #[] #[.pointer (some ⟨w.heap.size + 1 + 1, 0, none⟩)], undef, undef, undef, undef, undef, undef, undef, undef, undef, undef, undef, undef, undef, undef, undef, undef, undef, undef, undef, undef, undef, undef, undef] =
      #[.pointer sp, .string key, .slice A own.length c, undef, .pointer (some ⟨w.heap.size, 0, none⟩), undef, .pointer (some ⟨w.heap.size + 1, 0, none⟩), undef, undef, undef, undef, .slice A own.length c, .func (.func 29) #[] #[.pointer (some ⟨w.heap.size + 1 + 1, 0, none⟩)], .int .i64 x.1, .agg #[.string x.2.f0, .string x.2.f1], undef, undef, undef, undef, undef, undef, undef, undef, undef, undef, undef, undef, undef, undef, undef, undef, undef, undef, undef, undef, undef] := by
      simp [encR]
    rw [e0]
    gi_wp2
    exact ⟨KeepsOthers.alloc _ _, HE.out.turn (w := w) (Turn.alloc none w.heap.size W _) (Nat.le_refl _), HNO.out, by rw [Array.getElem_eq_iff]; exact World.alloc_heap_new W _⟩
  case hbody =>
    rintro l pre x rest a2 W hpx ⟨hE, hno, vb, hv, rfl⟩
    have hkc := hE.k.cell
    have hrc := hE.r.cell
    have hrf := hE.r.frozen
    have h0 : W.cell? ⟨vb, 0, none⟩ = some (.string x.2.f0) := by simp [World.cell?, hv]
    have h1 : W.cell? ⟨vb, 1, none⟩ = some (.string x.2.f1) := by simp [World.cell?, hv]
    have HE := Aside0.mk hE
    have HNO := Aside0.mk hno
    have HP := Aside0.mk hpx
    clear hE hno hpx hv
    rcases hq : (x.2.f0.toList == key.toList)
    · gi_wp2
      exact ⟨KeepsOthers.refl _, by simp, HE.out, by have h := HNO.out; unfold noKey at h ⊢; rw [List.all_append, h]; simp [isKey, hq]⟩
    · gi_wp2
      exact ⟨KeepsOthers.setCell _ _ _, pre, x, rest, HP.out, HNO.out, hq, HE.out.set _ (by omega) (by omega) (by omega)⟩
  case hstop =>
    rintro D pre W ⟨pre', x, rest, hx1, hx2, hx3, hE⟩ hD hDw
    have hl : lastOf own key = some x.2.f1 := by unfold lastOf; rw [find_pre hx1 hx2 hx3]; rfl
    have hE2 := hE.turn (Turn.put (c := none) (N := w3.heap.size) (.deferred none) hD hDw rfl) (by omega)
    have hv : r = x.2.f1 := by rw [← HV.out]; unfold valueOf; rw [hl]; rfl
    clear hx1 hx2 hx3 hE hl
    gi_wp2
    refine leave_mark hD (leave_none (results_string rfl Tryd.isAgg9 _ _ _ _ rfl hE2.r.cell) ⟨by rw [hv], hE2.below⟩)
  case hdone =>
    rintro D W ⟨hE, hno⟩ hD hDw
    have hl : lastOf own key = none := by unfold lastOf; rw [find_none hno]; rfl
    have hv : Aside0 (r = (lastOf g key).getD ⟨#[]⟩) := ⟨by rw [← HV.out]; unfold valueOf; rw [hl]; rfl⟩
    clear hno hl
    rcases HS.out with ⟨rfl, rfl⟩ | ⟨a, Ag, cg, rfl, hac, hCg⟩
    · have hE2 := (hE.set ⟨#[]⟩ (by omega) (by omega) (by omega)).turn (Turn.put (c := none) (N := w3.heap.size) (o := .deferred (some [])) (.deferred none) ((Below.heap_setCell W ⟨w.heap.size + 1, 0, none⟩ (.string ⟨#[]⟩) D (by show D ≠ w.heap.size + 1; omega)).trans hD) hDw rfl) (by omega)
      have hrc := hE.r.cell
      have hrf := hE.r.frozen
      have HD := Aside0.mk ((Below.heap_setCell W ⟨w.heap.size + 1, 0, none⟩ (.string ⟨#[]⟩) D (by show D ≠ w.heap.size + 1; omega)).trans hD)
      have HE2 := Aside0.mk hE2
      clear hE hE2 hD
      gi_wp2
      refine leave_mark HD.out (leave_none (results_string rfl Tryd.isAgg9 _ _ _ _ rfl HE2.out.r.cell) ⟨by rw [hv.out]; rfl, HE2.out.below⟩)
    · have hac2 := pw_cell_below hE.below hac
      have HG := Aside0.mk hCg
      have HE := Aside0.mk hE
      have HD := Aside0.mk hD
      clear hE hD hac hCg
      gi_wp2_with (refine ⟨trivial, ?_⟩; gi_at_call 21; refine (cB _ _ _ _).mono ?_; rintro e w' ⟨rfl, rfl⟩)
      have hDlt : D < W.heap.size := (Array.getElem?_eq_some_iff.1 HD.out).1
      obtain ⟨w4, hw4⟩ : ∃ w4, W.alloc (.cells #[.slice Ag g.length cg] 27) = w4 := ⟨_, rfl⟩
      have hs4 : w4.heap.size = W.heap.size + 1 := by rw [← hw4]; simp
      have hWs := HE.out.below.size
      have hE4 : Env w w.heap.size (w.heap.size + 1) W.heap.size key ⟨#[]⟩ Ag g.length cg w4 := by
        rw [← hw4]
        exact ⟨below_alloc HE.out.below _, (Below.heap_alloc _ _ _ HE.out.k.lt).trans HE.out.k, (Below.heap_alloc _ _ _ HE.out.r.lt).trans HE.out.r, World.alloc_heap_new W _⟩
      have hD4 : w4.heap[D]? = some (.deferred (some [])) := by rw [← hw4]; exact (Below.heap_alloc _ _ _ hDlt).trans HD.out
      have h2W : w.heap.size + 2 < W.heap.size := HE.out.b.lt
      rw [hw4]
      clear hac2
      refine range_func encR rfl (by decide) (gf := 29) (lb := #[.pointer (some ⟨W.heap.size, 0, none⟩)]) rfl trivial (enters_of Tryd.func29 (by kernel_rfl) rfl)
        (fun _ => rfl) none (by simp) [] (by simp) (backN g g.length)
        (fun pre U => Env w w.heap.size (w.heap.size + 1) W.heap.size key ⟨#[]⟩ Ag g.length cg U ∧ noKey key pre ∧ U.heap[D]? = some (.deferred (some [])))
        (fun pre U => ∃ pre' x rest, pre' ++ x :: rest = backN g g.length ∧ noKey key pre' ∧ isKey key x = true ∧ Env w w.heap.size (w.heap.size + 1) W.heap.size key x.2.f1 Ag g.length cg U ∧ U.heap[D]? = some (.deferred (some [])))
        (fun pre U V h t => ⟨h.1.turn t (by omega), h.2.1, t.keep _ _ h.2.2 (by simp) (.inl (by omega))⟩)
        (fun pre U V h t => by
          obtain ⟨pre', x, rest, h1, h2, h3, h4, h5⟩ := h
          exact ⟨pre', x, rest, h1, h2, h3, h4.turn t (by omega), t.keep _ _ h5 (by simp) (.inl (by omega))⟩)
        ?hiter2 ⟨hE4, rfl, hD4⟩ (fun pre x a2 U => Env w w.heap.size (w.heap.size + 1) W.heap.size key ⟨#[]⟩ Ag g.length cg U ∧ noKey key pre ∧ U.heap[D]? = some (.deferred (some [])) ∧ ∃ vb, U.heap[vb]? = some (.cells #[.string x.2.f0, .string x.2.f1] 42 (0, 0)) ∧ a2 = { tmps := #[.pointer (some a), .string key, .slice A own.length c, undef, .pointer (some ⟨w.heap.size, 0, none⟩), undef, .pointer (some ⟨w.heap.size + 1, 0, none⟩), undef, undef, undef, .pointer (some ⟨vb, 0, none⟩), .slice A own.length c, .func (.func 29) #[] #[.pointer (some ⟨w.heap.size + 1 + 1, 0, none⟩)], undef, undef, undef, undef, undef, undef, undef, undef, .pointer (some a), .bool false, .pointer (some a), .pointer (some a), .pointer (some a), .slice Ag g.length cg, .func (.func 29) #[] #[.pointer (some ⟨W.heap.size, 0, none⟩)], .int .i64 x.1, .agg #[.string x.2.f0, .string x.2.f1], undef, undef, undef, undef, undef, undef], defers := [] }) ?hM2 ?hassign2 ?hbody2 ?hdone2 ?hstop2
      case hM2 =>
        rintro pre x a2 U V ⟨h1, h2, h5, vb, h3, h4⟩ t
        exact ⟨h1.turn t (by omega), h2, t.keep _ _ h5 (by simp) (.inl (by omega)), vb, t.keep _ _ h3 (by simp) (.inr rfl), h4⟩
      case hiter2 =>
        intro l U J Jx hT hJI hset _ _ hY h0
        exact back_iter (5 - 1) l W.heap.size Ag cg g hg J Jx (fun pre V hV => ⟨(hJI _ _ hV).1.b.cell, reads_of_C (Kd.C_below HG.out (hJI _ _ hV).1.below)⟩) hY U h0
      case hassign2 =>
        rintro l pre x rest U hpx ⟨hE, hno, hD⟩
        have HE := Aside0.mk hE
        have HNO := Aside0.mk hno
        have HD := Aside0.mk hD
        clear hE hno hD
        have e0 : ((#[28, 29] : Array Tmp).zip (encR x)).foldl (fun t (p, v) => t.setIfInBounds p v) #[.pointer (some a), .string key, .slice A own.length c, undef, .pointer (some ⟨w.heap.size, 0, none⟩), undef, .pointer (some ⟨w.heap.size + 1, 0, none⟩), undef, undef, undef, undef, .slice A own.length c, .func (.func 29) #[] #[.pointer (some ⟨w.heap.size + 1 + 1, 0, none⟩)], undef, undef, undef, undef, undef, undef, undef, undef, .pointer (some a), .bool false, .pointer (some a), .pointer (some a), .pointer (some a), .slice Ag g.length cg, .func (.func 29) #[] #[.pointer (some ⟨W.heap.size, 0, none⟩)], undef, undef, undef, undef, undef, undef, undef, undef] = #[.pointer (some a), .string key, .slice A own.length c, undef, .pointer (some ⟨w.heap.size, 0, none⟩), undef, .pointer (some ⟨w.heap.size + 1, 0, none⟩), undef, undef, undef, undef, .slice A own.length c, .func (.func 29) #[] #[.pointer (some ⟨w.heap.size + 1 + 1, 0, none⟩)], undef, undef, undef, undef, undef, undef, undef, undef, .pointer (some a), .bool false, .pointer (some a), .pointer (some a), .pointer (some a), .slice Ag g.length cg, .func (.func 29) #[] #[.pointer (some ⟨W.heap.size, 0, none⟩)], .int .i64 x.1, .agg #[.string x.2.f0, .string x.2.f1], undef, undef, undef, undef, undef, undef] := by
          simp [encR]
        rw [e0]
        gi_wp2
        exact ⟨KeepsOthers.alloc _ _, HE.out.turn (w := w4) (Turn.alloc none w4.heap.size U _) (by omega), HNO.out, (Below.heap_alloc _ _ _ (Array.getElem?_eq_some_iff.1 HD.out).1).trans HD.out, by rw [Array.getElem_eq_iff]; exact World.alloc_heap_new U _⟩
      case hbody2 =>
        rintro l pre x rest a2 U hpx ⟨hE, hno, hD, vb, hv, rfl⟩
        have hkc := hE.k.cell
        have hrc := hE.r.cell
        have hrf := hE.r.frozen
        have h0 : U.cell? ⟨vb, 0, none⟩ = some (.string x.2.f0) := by simp [World.cell?, hv]
        have h1 : U.cell? ⟨vb, 1, none⟩ = some (.string x.2.f1) := by simp [World.cell?, hv]
        have HE := Aside0.mk hE
        have HNO := Aside0.mk hno
        have HP := Aside0.mk hpx
        have HD := Aside0.mk hD
        have hDr : D ≠ w.heap.size + 1 := by omega
        clear hE hno hpx hv hD
        rcases hq : (x.2.f0.toList == key.toList)
        · gi_wp2
          exact ⟨KeepsOthers.refl _, by simp, HE.out, by have h := HNO.out; unfold noKey at h ⊢; rw [List.all_append, h]; simp [isKey, hq], HD.out⟩
        · gi_wp2
          exact ⟨KeepsOthers.setCell _ _ _, pre, x, rest, HP.out, HNO.out, hq, HE.out.set _ (by omega) (by omega) (by omega), (Below.heap_setCell U ⟨w.heap.size + 1, 0, none⟩ _ D hDr).trans HD.out⟩
      case hstop2 =>
        rintro D2 pre U ⟨pre', x, rest, hx1, hx2, hx3, hE, hD⟩ hD2 hDw2
        have hl : lastOf g key = some x.2.f1 := by unfold lastOf; rw [find_pre hx1 hx2 hx3]; rfl
        have hv2 : r = x.2.f1 := by rw [hv.out, hl]; rfl
        have ht := Turn.put (c := none) (N := w4.heap.size) (.deferred none) hD2 hDw2 rfl
        have hE2 := hE.turn ht (by omega)
        have hD3 := ht.keep _ _ hD (by simp) (.inl (by omega))
        have hE3 := hE2.turn (w := w3) (Turn.put (c := none) (N := w3.heap.size) (.deferred none) hD3 hDw rfl) (by omega)
        clear hx1 hx2 hx3 hE hl ht
        gi_wp2
        exact leave_mark hD2 (leave_mark hD3 (leave_none (results_string rfl Tryd.isAgg9 _ _ _ _ rfl hE3.r.cell) ⟨by rw [hv2], hE3.below⟩))
      case hdone2 =>
        rintro D2 U ⟨hE, hno, hD⟩ hD2 hDw2
        have hl : lastOf g key = none := by unfold lastOf; rw [find_none hno]; rfl
        have hv2 : Aside0 (r = ⟨#[]⟩) := ⟨by rw [hv.out, hl]; rfl⟩
        have hrc := hE.r.cell
        have hrf := hE.r.frozen
        have hD2' := (Below.heap_setCell U ⟨w.heap.size + 1, 0, none⟩ (.string ⟨#[]⟩) D2 (by show D2 ≠ w.heap.size + 1; omega)).trans hD2
        have hD' := (Below.heap_setCell U ⟨w.heap.size + 1, 0, none⟩ (.string ⟨#[]⟩) D (by show D ≠ w.heap.size + 1; omega)).trans hD
        have ht := Turn.put (c := none) (N := w4.heap.size) (.deferred none) hD2' hDw2 rfl
        have hE2 := (hE.set ⟨#[]⟩ (by omega) (by omega) (by omega)).turn ht (by omega)
        have hD3 := ht.keep _ _ hD' (by simp) (.inl (by omega))
        have hE3 := Aside0.mk (hE2.turn (w := w3) (Turn.put (c := none) (N := w3.heap.size) (.deferred none) hD3 hDw rfl) (by omega))
        have HD2 := Aside0.mk hD2'
        have HD3 := Aside0.mk hD3
        clear hE hl ht hE2 hD2 hD2' hD hD' hD3 hno
        gi_wp2
        exact leave_mark HD2.out (leave_mark HD3.out (leave_none (results_string rfl Tryd.isAgg9 _ _ _ _ rfl hE3.out.r.cell) ⟨by rw [hv2.out], hE3.out.below⟩))
end Go.Proofs.YtehfblmconkdhaaDoor.Q
