/- The calls of layer 7 as the laws see them: Global, Apply, Value at a state of one's own; what they answer, under names. -/
import Derived.Test.YtehfblmconkdhaaDoorXStates
import Derived.Test.YtehfblmconkdhaaDoorXPlain7
import Derived.Test.YtehfblmconkdhaaDoorXRefApply
namespace Go.Proofs.YtehfblmconkdhaaDoor.Q
open Go.RowKit Go.Proofs.YtehfblmconkdhaaDoorW.PrintWords Go.Proofs.YtehfblmconkdhaaDoorW.PrintLast Go.Proofs.YtehfblmconkdhaaDoorW.PrintMore
def hdOf (o : Option Hd) : Hd := o.getD Hd.zero
def errOf (o : Option Hd) : Int := match o with
  | some _ => 0
  | none => 4
def applyO (g own : List S42) (h : Hd) : Option Hd := applyS h (valueOf g own bPath) (valueOf g own bLink) (valueOf g own bUid) (valueOf g own bGid) (valueOf g own bTime) (valueOf g own bSize)
theorem applyR_eq (o : Option Hd) : applyR o = .tuple #[.agg #[.string (hdOf o).name, .string (hdOf o).link, .int .u8 (hdOf o).kind, .int .i64 (hdOf o).mode, .int .i64 (hdOf o).uid, .int .i64 (hdOf o).gid, .int .i64 (hdOf o).time, .int .i64 (hdOf o).size, .bool (hdOf o).gnu], .int .i64 (errOf o)] := by
  cases o <;> rfl
/-- Records whose texts are no longer than any machine's. -/
def Small (l : List S42) : Prop := ∀ x ∈ l, x.f1.size ≤ 281474976710656
theorem Small.append {l m : List S42} (h : Small l) (h2 : Small m) : Small (l ++ m) := fun x hx => by
  rcases List.mem_append.1 hx with hx | hx
  · exact h x hx
  · exact h2 x hx
theorem Small.nil : Small [] := fun x hx => by cases hx
theorem apply_callB (sp : Option Addr) (g : List S42) (h : Hd) (A : Option Addr) (c : Nat) (own : List S42) (w : World) (hS : StateIn w sp g) (hr : Kd.C k42 w A own.length own) (hn : own.length ≤ 1000000000000000) (hg : g.length ≤ 1000000000000000) (hErr : ErrsOk w) (hz : Small g) (hz2 : Small own) (o : Option Hd) (ho : applyO g own h = o) :
    Calls Tryd.prog 11 #[.pointer sp, .agg #[.string h.name, .string h.link, .int .u8 h.kind, .int .i64 h.mode, .int .i64 h.uid, .int .i64 h.gid, .int .i64 h.time, .int .i64 h.size, .bool h.gnu], .slice A own.length c] w fun e w' => e = .returned (.tuple #[.agg #[.string (hdOf o).name, .string (hdOf o).link, .int .u8 (hdOf o).kind, .int .i64 (hdOf o).mode, .int .i64 (hdOf o).uid, .int .i64 (hdOf o).gid, .int .i64 (hdOf o).time, .int .i64 (hdOf o).size, .bool (hdOf o).gnu], .int .i64 (errOf o)]) ∧ Below w.heap.size w w' := by
  rw [← applyR_eq, ← ho]
  exact apply_walk sp g h A c own w hS hr (by omega) (by omega) hErr (fun key => valueOf_size hz hz2)
theorem apply_call (sp : Option Addr) (g : List S42) (h : Hd) (A : Option Addr) (c : Nat) (own : List S42) (w : World) (hS : StateIn w sp g) (hr : Kd.C k42 w A own.length own) (hn : own.length ≤ 1000000) (hg : g.length ≤ 1000000) (hErr : ErrsOk w) (hz : Small g) (hz2 : Small own) (o : Option Hd) (ho : applyO g own h = o) :
    Calls Tryd.prog 11 #[.pointer sp, .agg #[.string h.name, .string h.link, .int .u8 h.kind, .int .i64 h.mode, .int .i64 h.uid, .int .i64 h.gid, .int .i64 h.time, .int .i64 h.size, .bool h.gnu], .slice A own.length c] w fun e w' => e = .returned (.tuple #[.agg #[.string (hdOf o).name, .string (hdOf o).link, .int .u8 (hdOf o).kind, .int .i64 (hdOf o).mode, .int .i64 (hdOf o).uid, .int .i64 (hdOf o).gid, .int .i64 (hdOf o).time, .int .i64 (hdOf o).size, .bool (hdOf o).gnu], .int .i64 (errOf o)]) ∧ Below w.heap.size w w' :=
  apply_callB sp g h A c own w hS hr (by omega) (by omega) hErr hz hz2 o ho
theorem refapply_callB (Ag : Option Addr) (cg : Nat) (g : List S42) (h : Hd) (A : Option Addr) (c : Nat) (own : List S42) (w : World) (hgr : Kd.C k42 w Ag g.length g) (hgc : g.length ≤ cg) (hr : Kd.C k42 w A own.length own) (hc : own.length ≤ c) (hn : own.length ≤ 1000000000000000) (hg : g.length ≤ 1000000000000000) (hz : Small g) (hz2 : Small own) (o : Option Hd) (ho : applyO g own h = o) :
    Calls Tryd.prog 12 #[.slice Ag g.length cg, .slice A own.length c, .agg #[.string h.name, .string h.link, .int .u8 h.kind, .int .i64 h.mode, .int .i64 h.uid, .int .i64 h.gid, .int .i64 h.time, .int .i64 h.size, .bool h.gnu]] w fun e w' => e = .returned (.tuple #[.agg #[.string (hdOf o).name, .string (hdOf o).link, .int .u8 (hdOf o).kind, .int .i64 (hdOf o).mode, .int .i64 (hdOf o).uid, .int .i64 (hdOf o).gid, .int .i64 (hdOf o).time, .int .i64 (hdOf o).size, .bool (hdOf o).gnu], .int .i64 (errOf o)]) ∧ Below w.heap.size w w' := by
  rw [← applyR_eq, ← ho]
  exact refapply_walk Ag cg g A c own h w hgr hgc hr hc hn hg (fun key => valueOf_size hz hz2)
theorem refapply_call (Ag : Option Addr) (cg : Nat) (g : List S42) (h : Hd) (A : Option Addr) (c : Nat) (own : List S42) (w : World) (hgr : Kd.C k42 w Ag g.length g) (hgc : g.length ≤ cg) (hr : Kd.C k42 w A own.length own) (hc : own.length ≤ c) (hn : own.length ≤ 1000000) (hg : g.length ≤ 1000000) (hz : Small g) (hz2 : Small own) (o : Option Hd) (ho : applyO g own h = o) :
    Calls Tryd.prog 12 #[.slice Ag g.length cg, .slice A own.length c, .agg #[.string h.name, .string h.link, .int .u8 h.kind, .int .i64 h.mode, .int .i64 h.uid, .int .i64 h.gid, .int .i64 h.time, .int .i64 h.size, .bool h.gnu]] w fun e w' => e = .returned (.tuple #[.agg #[.string (hdOf o).name, .string (hdOf o).link, .int .u8 (hdOf o).kind, .int .i64 (hdOf o).mode, .int .i64 (hdOf o).uid, .int .i64 (hdOf o).gid, .int .i64 (hdOf o).time, .int .i64 (hdOf o).size, .bool (hdOf o).gnu], .int .i64 (errOf o)]) ∧ Below w.heap.size w w' :=
  refapply_callB Ag cg g h A c own w hgr hgc hr hc (by omega) (by omega) hz hz2 o ho
theorem refvalue_call (Ag : Option Addr) (cg : Nat) (g : List S42) (A : Option Addr) (c : Nat) (own : List S42) (key : ByteArray) (w : World) (hgr : Kd.C k42 w Ag g.length g) (hgc : g.length ≤ cg) (hr : Kd.C k42 w A own.length own) (hc : own.length ≤ c) (hn : own.length ≤ 1000000) (hg : g.length ≤ 1000000) :
    Calls Tryd.prog 14 #[.slice Ag g.length cg, .slice A own.length c, .string key] w fun e w' => e = .returned (.string (valueOf g own key)) ∧ Below w.heap.size w w' := (bindleref01_Value.calls (g.length + own.length + 1) Ag cg g A c own key (valueOf g own key) w hgr hgc hr hc (value_is g own key _ (by omega) (by omega) (Nat.le_refl _))).mono (by
  rintro e w' ⟨rfl, hb⟩
  exact ⟨rfl, drawn_below hb⟩)
theorem C_nil (w : World) : Kd.C k42 w none 0 [] := ⟨rfl, by decide, fun h => absurd h (by decide)⟩
theorem refvalue_nil (A : Option Addr) (c : Nat) (own : List S42) (key : ByteArray) (w : World) (hr : Kd.C k42 w A own.length own) (hc : own.length ≤ c) (hn : own.length ≤ 1000000) :
    Calls Tryd.prog 14 #[.slice none 0 0, .slice A own.length c, .string key] w fun e w' => e = .returned (.string (valueOf [] own key)) ∧ Below w.heap.size w w' := refvalue_call none 0 [] A c own key w (C_nil w) (Nat.le_refl _) hr hc hn (by simp)
theorem refapply_nil (h : Hd) (A : Option Addr) (c : Nat) (own : List S42) (w : World) (hr : Kd.C k42 w A own.length own) (hc : own.length ≤ c) (hn : own.length ≤ 1000000) (hz2 : Small own) (o : Option Hd) (ho : applyO [] own h = o) :
    Calls Tryd.prog 12 #[.slice none 0 0, .slice A own.length c, .agg #[.string h.name, .string h.link, .int .u8 h.kind, .int .i64 h.mode, .int .i64 h.uid, .int .i64 h.gid, .int .i64 h.time, .int .i64 h.size, .bool h.gnu]] w fun e w' => e = .returned (.tuple #[.agg #[.string (hdOf o).name, .string (hdOf o).link, .int .u8 (hdOf o).kind, .int .i64 (hdOf o).mode, .int .i64 (hdOf o).uid, .int .i64 (hdOf o).gid, .int .i64 (hdOf o).time, .int .i64 (hdOf o).size, .bool (hdOf o).gnu], .int .i64 (errOf o)]) ∧ Below w.heap.size w w' := refapply_call none 0 [] h A c own w (C_nil w) (Nat.le_refl _) hr hc hn (by simp) Small.nil hz2 o ho
theorem apply_empty (sp : Option Addr) (g : List S42) (h : Hd) (w : World) (hS : StateIn w sp g) (hg : g.length ≤ 1000000) (hErr : ErrsOk w) (hz : Small g) (o : Option Hd) (ho : applyO g [] h = o) :
    Calls Tryd.prog 11 #[.pointer sp, .agg #[.string h.name, .string h.link, .int .u8 h.kind, .int .i64 h.mode, .int .i64 h.uid, .int .i64 h.gid, .int .i64 h.time, .int .i64 h.size, .bool h.gnu], .slice none 0 0] w fun e w' => e = .returned (.tuple #[.agg #[.string (hdOf o).name, .string (hdOf o).link, .int .u8 (hdOf o).kind, .int .i64 (hdOf o).mode, .int .i64 (hdOf o).uid, .int .i64 (hdOf o).gid, .int .i64 (hdOf o).time, .int .i64 (hdOf o).size, .bool (hdOf o).gnu], .int .i64 (errOf o)]) ∧ Below w.heap.size w w' := apply_call sp g h none 0 [] w hS (C_nil w) (by simp) hg hErr hz Small.nil o ho
/-- What Global turns: the state's variable and its row; older blocks stay. -/
structure Grew (W W2 : World) (sb : Nat) (v : Value) : Prop where
  size : W.heap.size ≤ W2.heap.size
  block : ∀ i, i < W.heap.size → i ≠ sb → some i ≠ v.ownBlock → W2.heap[i]? = W.heap[i]?
theorem global_call (w0 : World) (sb : Nat) (v : Value) (l : List S42) (A : Option Addr) (c : Nat) (xs : List S42) (W : World) (hS : StateOwn W w0.heap.size sb v l) (hr : Kd.C k42 W A xs.length xs) (hB : Below w0.heap.size w0 W) (hsb : w0.heap.size ≤ sb) (hn : l.length + xs.length ≤ 1000000) :
    Calls Tryd.prog 10 #[.pointer (some ⟨sb, 0, none⟩), .slice A xs.length c] W fun e w' => e = .returned (.tuple #[]) ∧ ∃ v', StateOwn w' w0.heap.size sb v' (l ++ xs) ∧ (v'.ownBlock = v.ownBlock ∨ ∃ b, v'.ownBlock = some b ∧ W.heap.size ≤ b) ∧ Grew W w' sb v ∧ Below w0.heap.size w0 w' := by
  refine (global_walk w0.heap.size sb v l A c xs W hS hr hB.size hn).mono ?_
  rintro e w' ⟨rfl, v', h1, h2, h3⟩
  refine ⟨rfl, v', h1, h2, ⟨h3.size, fun i hi hne hno => h3.block i hi (fun e => e.elim hne hno)⟩, below_moved hB h3 ?_⟩
  rintro i (rfl | hi)
  · exact hsb
  · exact (hS.base hi.symm).1
/-- A state stays while another one grows. -/
theorem StateOwn.grew {W W2 : World} {base sb sb2 : Nat} {v v2 : Value} {l : List S42} (h : StateOwn W base sb v l) (g : Grew W W2 sb2 v2) (h1 : sb ≠ sb2) (h2 : some sb ≠ v2.ownBlock) (h3 : some sb2 ≠ v.ownBlock) (h4 : ∀ k, v.ownBlock = some k → v2.ownBlock ≠ some k) : StateOwn W2 base sb v l where
  left := (g.block sb (Array.getElem?_eq_some_iff.1 h.1).1 h1 h2).trans h.1
  right := Kd.R_mono (Kd.R_step h.own (fun k hk hlt => g.block k hlt (fun e => h3 (by rw [← e, ← hk])) (fun e => h4 k hk e.symm))) (fun _ _ => trivial)
/-- Rows that are read, the older ones, stay while a state grows. -/
theorem C_old {w0 W : World} {A : Option Addr} {l : List S42} (h : Kd.C k42 w0 A l.length l) (hB : Below w0.heap.size w0 W) : Kd.C k42 W A l.length l := Kd.C_below h hB
/-- An array of records that a call lays. -/
theorem recs_get : ∀ (l : List S42) (j : Nat) (p : S42), l[j]? = some p → (l.flatMap fun x => [Value.string x.f0, Value.string x.f1])[j * 2]? = some (.string p.f0) ∧ (l.flatMap fun x => [Value.string x.f0, Value.string x.f1])[j * 2 + 1]? = some (.string p.f1)
  | x :: l, 0, p, h => by
    simp at h
    subst h
    exact ⟨rfl, rfl⟩
  | x :: l, j + 1, p, h => by
    have := recs_get l j p (by simpa using h)
    rw [show (j + 1) * 2 = j * 2 + 1 + 1 by omega, show j * 2 + 1 + 1 + 1 = (j * 2 + 1) + 1 + 1 by omega]
    exact this
  | [], _, _, h => by simp at h
theorem recs_reads (W : World) (l : List S42) (t : TypeId) (fr : Nat × Nat) (hl : l.length ≤ 1000000) : Kd.C k42 (W.alloc (.cells (l.flatMap fun x => [Value.string x.f0, Value.string x.f1]).toArray t fr)) (some ⟨W.heap.size, 0, none⟩) l.length l := by
  refine ⟨rfl, by omega, fun _ => ⟨_, rfl, fun j p hp => ⟨[.string p.f0, .string p.f1], rfl, k42_mk _ _, fun i u hu => ?_⟩⟩⟩
  obtain ⟨h0, h1⟩ := recs_get l j p hp
  have hc : ∀ (C : Array Value) (n : Nat), (W.alloc (.cells C t fr)).cell? ((⟨W.heap.size, 0, none⟩ : Addr).add n) = C[n]? := fun C n => by
    rw [add_plain]
    simp [World.cell?, World.alloc, -World.alloc_eq]
  show (W.alloc _).cell? ((⟨W.heap.size, 0, none⟩ : Addr).add (j * 2 + i)) = some u
  rw [hc, List.getElem?_toArray]
  rcases i with _ | _ | i
  · simp at hu
    subst hu
    exact h0
  · simp at hu
    subst hu
    exact h1
  · simp at hu
end Go.Proofs.YtehfblmconkdhaaDoor.Q
