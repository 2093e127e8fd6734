/- attr.State.Apply: two maps of pointers into the header's variable, each ranged over in whatever order. -/
import Derived.Test.YtehfblmconkdhaaDoorXValue
import Derived.Test.YtehfblmconkdhaaDoorXNum
import Derived.Maps.Own
import Derived.Maps.RangeWalk
namespace Go.Proofs.YtehfblmconkdhaaDoor.Q
open Go.RowKit Go.Maps Go.Proofs.YtehfblmconkdhaaDoorW.PrintWords Go.Proofs.YtehfblmconkdhaaDoorW.PrintLast Go.Proofs.YtehfblmconkdhaaDoorW.PrintMore
set_option linter.unusedVariables false
set_option linter.unusedSimpArgs false
structure Hd where
  name : ByteArray
  link : ByteArray
  kind : Int
  mode : Int
  uid : Int
  gid : Int
  time : Int
  size : Int
  gnu : Bool
def Hd.cells (h : Hd) : Array Value := #[.string h.name, .string h.link, .int .u8 h.kind, .int .i64 h.mode, .int .i64 h.uid, .int .i64 h.gid, .int .i64 h.time, .int .i64 h.size, .bool h.gnu]
def Hd.zero : Hd := ⟨⟨#[]⟩, ⟨#[]⟩, 0, 0, 0, 0, 0, 0, false⟩
/-- An element of the two maps: a pointer into the header's variable, told by its place. -/
def ptrE (hb : Nat) (v : Value) : Option (DataW Unit × List MemPlace) := match v with
  | .pointer (some ⟨b, o, none⟩) => if b = hb then some (.lit (.int .i64 (o : Int)), []) else none
  | _ => none
theorem ptrE_mk (hb o : Nat) : ptrE hb (.pointer (some ⟨hb, o, none⟩)) = some (.lit (.int .i64 (o : Int)), []) := by simp [ptrE]
theorem ptrE_inv {hb : Nat} {v : Value} {y : DataW Unit × List MemPlace} (h : ptrE hb v = some y) : ∃ o : Nat, v = .pointer (some ⟨hb, o, none⟩) ∧ y = (.lit (.int .i64 (o : Int)), []) := by
  unfold ptrE at h
  split at h
  · split at h
    · rename_i hb'
      subst hb'
      exact ⟨_, rfl, (Option.some.inj h).symm⟩
    · cases h
  · cases h
theorem keyLaw : Keyed Tryd.prog 9 := string_keyed Tryd.underlying9
def lk (s : ByteArray) : Lit := .string s.data.toList
theorem key_inv {key : Value} {kl : Lit} (h : keyOf Tryd.prog 9 key = some kl) : ∃ s : ByteArray, key = .string s ∧ kl = lk s := by
  cases key <;> simp [keyOf, Tryd.underlying9, mapKey] at h
  rename_i s
  obtain ⟨hs, rfl⟩ := h
  exact ⟨s, rfl, rfl⟩
theorem key_mk (s : ByteArray) (hs : s.size ≤ maxLen) : keyOf Tryd.prog 9 (.string s) = some (.string s.data.toList) := by
  simp [keyOf, Tryd.underlying9, mapKey, hs]
theorem at_inv {es : List (Lit × DataW Unit)} {kl : Lit} {y : DataW Unit} (h : ∀ zd : DataW Unit, (DataW.map es).atKey kl zd = y) : ∃ p ∈ es, p.1.sameKey kl = true ∧ p.2 = y := by
  unfold DataW.atKey at h
  cases hf : es.find? (fun p => p.1.sameKey kl) with
  | none =>
    simp only [hf] at h
    have h1 := h .nil
    rw [← h (.lit (.bool true))] at h1
    cases h1
  | some p =>
    simp only [hf] at h
    exact ⟨p, List.mem_of_find?_eq_some hf, by simpa using List.find?_some hf, h .nil⟩
def bPath : ByteArray := ⟨#[112, 97, 116, 104]⟩
def bLink : ByteArray := ⟨#[108, 105, 110, 107, 112, 97, 116, 104]⟩
def bUid : ByteArray := ⟨#[117, 105, 100]⟩
def bGid : ByteArray := ⟨#[103, 105, 100]⟩
def bTime : ByteArray := ⟨#[109, 116, 105, 109, 101]⟩
def bSize : ByteArray := ⟨#[115, 105, 122, 101]⟩
def at_ (n : Nat) : DataW Unit := .lit (.int .i64 (n : Int))
def D1 : DataW Unit := ((DataW.map []).put (lk bPath) (at_ 0)).put (lk bLink) (at_ 1)
def D2 : DataW Unit := ((((DataW.map []).put (lk bUid) (at_ 4)).put (lk bGid) (at_ 5)).put (lk bTime) (at_ 6)).put (lk bSize) (at_ 7)
theorem D1_is : D1 = .map [(lk bLink, at_ 1), (lk bPath, at_ 0)] := by rfl
theorem D2_is : D2 = .map [(lk bGid, at_ 5), (lk bTime, at_ 6), (lk bSize, at_ 7), (lk bUid, at_ 4)] := by rfl
theorem at_eq {n m : Nat} (h : at_ n = at_ m) : n = m := by
  unfold at_ at h
  injection h with h
  injection h with _ h
  omega
theorem key_eq {s t : ByteArray} (h : (lk s).sameKey (lk t) = true) : t = s := by
  unfold lk Lit.sameKey at h
  have := beq_iff_eq.1 h
  cases s
  cases t
  simp at this
  rw [this]
theorem D1_at {s : ByteArray} {o : Nat} (h : ∀ zd : DataW Unit, D1.atKey (lk s) zd = at_ o) : (s = bPath ∧ o = 0) ∨ (s = bLink ∧ o = 1) := by
  rw [D1_is] at h
  obtain ⟨p, hp, hk, he⟩ := at_inv h
  simp only [List.mem_cons, List.not_mem_nil, or_false] at hp
  rcases hp with rfl | rfl
  · exact .inr ⟨key_eq hk, (at_eq he).symm⟩
  · exact .inl ⟨key_eq hk, (at_eq he).symm⟩
theorem D2_at {s : ByteArray} {o : Nat} (h : ∀ zd : DataW Unit, D2.atKey (lk s) zd = at_ o) : (s = bUid ∧ o = 4) ∨ (s = bGid ∧ o = 5) ∨ (s = bTime ∧ o = 6) ∨ (s = bSize ∧ o = 7) := by
  rw [D2_is] at h
  obtain ⟨p, hp, hk, he⟩ := at_inv h
  simp only [List.mem_cons, List.not_mem_nil, or_false] at hp
  rcases hp with rfl | rfl | rfl | rfl
  · exact .inr (.inl ⟨key_eq hk, (at_eq he).symm⟩)
  · exact .inr (.inr (.inl ⟨key_eq hk, (at_eq he).symm⟩))
  · exact .inr (.inr (.inr ⟨key_eq hk, (at_eq he).symm⟩))
  · exact .inl ⟨key_eq hk, (at_eq he).symm⟩
/-- A new text stands, an empty one doesn't. -/
def newStr (v old : ByteArray) : ByteArray := if v.toList = [] then old else v
/-- The header after some rounds of the first loop: what is still to come is as it was. -/
def hd1 (h : Hd) (vp vl : ByteArray) (left : Lit → Bool) : Hd := { h with name := if left (lk bPath) = true then h.name else newStr vp h.name, link := if left (lk bLink) = true then h.link else newStr vl h.link }
theorem hd1_path (h : Hd) (vp vl : ByteArray) (left : Lit → Bool) : hd1 h vp vl (fun z => left z && !z.sameKey (lk bPath)) = { hd1 h vp vl left with name := newStr vp h.name } := by
  unfold hd1
  simp [show (lk bPath).sameKey (lk bPath) = true from rfl, show (lk bLink).sameKey (lk bPath) = false from rfl]
theorem hd1_link (h : Hd) (vp vl : ByteArray) (left : Lit → Bool) : hd1 h vp vl (fun z => left z && !z.sameKey (lk bLink)) = { hd1 h vp vl left with link := newStr vl h.link } := by
  unfold hd1
  simp [show (lk bLink).sameKey (lk bLink) = true from rfl, show (lk bPath).sameKey (lk bLink) = false from rfl]
theorem hd1_path_same {h : Hd} {vp vl : ByteArray} {left : Lit → Bool} (hl : left (lk bPath) = true) (hv : vp.toList = []) : hd1 h vp vl (fun z => left z && !z.sameKey (lk bPath)) = hd1 h vp vl left := by
  rw [hd1_path]
  unfold newStr
  rw [if_pos hv]
  unfold hd1
  rw [hl]
  rfl
theorem hd1_link_same {h : Hd} {vp vl : ByteArray} {left : Lit → Bool} (hl : left (lk bLink) = true) (hv : vl.toList = []) : hd1 h vp vl (fun z => left z && !z.sameKey (lk bLink)) = hd1 h vp vl left := by
  rw [hd1_link]
  unfold newStr
  rw [if_pos hv]
  unfold hd1
  rw [hl]
  rfl
theorem grown_set (W : World) (g j : Nat) (v : Value) : W.grownBy (W.setCell ⟨g, j, none⟩ v) (some g) :=
  ⟨rfl, rfl, rfl, by simp [World.setCell], fun i hi hne => Below.heap_setCell W ⟨g, j, none⟩ v i (fun e => hne (by rw [e]))⟩
/-- A state that came in stays. -/
theorem StateIn.keep {w w1 : World} {sp : Option Addr} {g : List S42} (h : StateIn w sp g) (hb : Below w.heap.size w w1) : StateIn w1 sp g := by
  rcases h with h | ⟨a, Ag, cg, h1, h2, h3⟩
  · exact .inl h
  · exact .inr ⟨a, Ag, cg, h1, pw_cell_below hb h2, Kd.C_below h3 hb⟩
def numS (time : Bool) (v : ByteArray) : Option Nat := if time = true then secondsS v.data.toList else wholeS v.data.toList
def numOk (time : Bool) (v : ByteArray) : Bool := (v.toList == []) || (numS time v).isSome
/-- A new number stands; behind an empty text the old one. -/
def newNum (time : Bool) (v : ByteArray) (old : Int) : Int := if v.toList = [] then old else match numS time v with
  | some n => (n : Int)
  | none => old
/-- The header after some rounds of the second loop. -/
def hd2 (h : Hd) (vu vg vt vs : ByteArray) (left : Lit → Bool) : Hd := { h with uid := if left (lk bUid) = true then h.uid else newNum false vu h.uid, gid := if left (lk bGid) = true then h.gid else newNum false vg h.gid, time := if left (lk bTime) = true then h.time else newNum true vt h.time, size := if left (lk bSize) = true then h.size else newNum false vs h.size }
/-- What is behind is no fault. -/
def ok2 (vu vg vt vs : ByteArray) (left : Lit → Bool) : Prop := (left (lk bUid) = false → numOk false vu = true) ∧ (left (lk bGid) = false → numOk false vg = true) ∧ (left (lk bTime) = false → numOk true vt = true) ∧ (left (lk bSize) = false → numOk false vs = true)
theorem hd2_uid (h : Hd) (vu vg vt vs : ByteArray) (left : Lit → Bool) : hd2 h vu vg vt vs (fun z => left z && !z.sameKey (lk bUid)) = { hd2 h vu vg vt vs left with uid := newNum false vu h.uid } := by
  unfold hd2
  simp [show (lk bUid).sameKey (lk bUid) = true from rfl, show (lk bGid).sameKey (lk bUid) = false from rfl, show (lk bTime).sameKey (lk bUid) = false from rfl, show (lk bSize).sameKey (lk bUid) = false from rfl]
theorem hd2_uid_same {h : Hd} {vu vg vt vs : ByteArray} {left : Lit → Bool} (hl : left (lk bUid) = true) (hv : vu.toList = []) : hd2 h vu vg vt vs (fun z => left z && !z.sameKey (lk bUid)) = hd2 h vu vg vt vs left := by
  rw [hd2_uid]
  unfold newNum
  rw [if_pos hv]
  unfold hd2
  rw [hl]
  rfl
theorem ok2_uid {vu vg vt vs : ByteArray} {left : Lit → Bool} (h : ok2 vu vg vt vs left) (hk : numOk false vu = true) : ok2 vu vg vt vs (fun z => left z && !z.sameKey (lk bUid)) := by
  obtain ⟨a, b, c, d⟩ := h
  exact ⟨fun _ => hk, fun h => b (by simpa [show (lk bGid).sameKey (lk bUid) = false from rfl] using h), fun h => c (by simpa [show (lk bTime).sameKey (lk bUid) = false from rfl] using h), fun h => d (by simpa [show (lk bSize).sameKey (lk bUid) = false from rfl] using h)⟩
theorem hd2_gid (h : Hd) (vu vg vt vs : ByteArray) (left : Lit → Bool) : hd2 h vu vg vt vs (fun z => left z && !z.sameKey (lk bGid)) = { hd2 h vu vg vt vs left with gid := newNum false vg h.gid } := by
  unfold hd2
  simp [show (lk bGid).sameKey (lk bGid) = true from rfl, show (lk bUid).sameKey (lk bGid) = false from rfl, show (lk bTime).sameKey (lk bGid) = false from rfl, show (lk bSize).sameKey (lk bGid) = false from rfl]
theorem hd2_gid_same {h : Hd} {vu vg vt vs : ByteArray} {left : Lit → Bool} (hl : left (lk bGid) = true) (hv : vg.toList = []) : hd2 h vu vg vt vs (fun z => left z && !z.sameKey (lk bGid)) = hd2 h vu vg vt vs left := by
  rw [hd2_gid]
  unfold newNum
  rw [if_pos hv]
  unfold hd2
  rw [hl]
  rfl
theorem ok2_gid {vu vg vt vs : ByteArray} {left : Lit → Bool} (h : ok2 vu vg vt vs left) (hk : numOk false vg = true) : ok2 vu vg vt vs (fun z => left z && !z.sameKey (lk bGid)) := by
  obtain ⟨a, b, c, d⟩ := h
  exact ⟨fun h => a (by simpa [show (lk bUid).sameKey (lk bGid) = false from rfl] using h), fun _ => hk, fun h => c (by simpa [show (lk bTime).sameKey (lk bGid) = false from rfl] using h), fun h => d (by simpa [show (lk bSize).sameKey (lk bGid) = false from rfl] using h)⟩
theorem hd2_time (h : Hd) (vu vg vt vs : ByteArray) (left : Lit → Bool) : hd2 h vu vg vt vs (fun z => left z && !z.sameKey (lk bTime)) = { hd2 h vu vg vt vs left with time := newNum true vt h.time } := by
  unfold hd2
  simp [show (lk bTime).sameKey (lk bTime) = true from rfl, show (lk bUid).sameKey (lk bTime) = false from rfl, show (lk bGid).sameKey (lk bTime) = false from rfl, show (lk bSize).sameKey (lk bTime) = false from rfl]
theorem hd2_time_same {h : Hd} {vu vg vt vs : ByteArray} {left : Lit → Bool} (hl : left (lk bTime) = true) (hv : vt.toList = []) : hd2 h vu vg vt vs (fun z => left z && !z.sameKey (lk bTime)) = hd2 h vu vg vt vs left := by
  rw [hd2_time]
  unfold newNum
  rw [if_pos hv]
  unfold hd2
  rw [hl]
  rfl
theorem ok2_time {vu vg vt vs : ByteArray} {left : Lit → Bool} (h : ok2 vu vg vt vs left) (hk : numOk true vt = true) : ok2 vu vg vt vs (fun z => left z && !z.sameKey (lk bTime)) := by
  obtain ⟨a, b, c, d⟩ := h
  exact ⟨fun h => a (by simpa [show (lk bUid).sameKey (lk bTime) = false from rfl] using h), fun h => b (by simpa [show (lk bGid).sameKey (lk bTime) = false from rfl] using h), fun _ => hk, fun h => d (by simpa [show (lk bSize).sameKey (lk bTime) = false from rfl] using h)⟩
theorem hd2_size (h : Hd) (vu vg vt vs : ByteArray) (left : Lit → Bool) : hd2 h vu vg vt vs (fun z => left z && !z.sameKey (lk bSize)) = { hd2 h vu vg vt vs left with size := newNum false vs h.size } := by
  unfold hd2
  simp [show (lk bSize).sameKey (lk bSize) = true from rfl, show (lk bUid).sameKey (lk bSize) = false from rfl, show (lk bGid).sameKey (lk bSize) = false from rfl, show (lk bTime).sameKey (lk bSize) = false from rfl]
theorem hd2_size_same {h : Hd} {vu vg vt vs : ByteArray} {left : Lit → Bool} (hl : left (lk bSize) = true) (hv : vs.toList = []) : hd2 h vu vg vt vs (fun z => left z && !z.sameKey (lk bSize)) = hd2 h vu vg vt vs left := by
  rw [hd2_size]
  unfold newNum
  rw [if_pos hv]
  unfold hd2
  rw [hl]
  rfl
theorem ok2_size {vu vg vt vs : ByteArray} {left : Lit → Bool} (h : ok2 vu vg vt vs left) (hk : numOk false vs = true) : ok2 vu vg vt vs (fun z => left z && !z.sameKey (lk bSize)) := by
  obtain ⟨a, b, c, d⟩ := h
  exact ⟨fun h => a (by simpa [show (lk bUid).sameKey (lk bSize) = false from rfl] using h), fun h => b (by simpa [show (lk bGid).sameKey (lk bSize) = false from rfl] using h), fun h => c (by simpa [show (lk bTime).sameKey (lk bSize) = false from rfl] using h), fun _ => hk⟩
/-- What Apply makes of a header; none: a number is none. -/
def applyS (h : Hd) (vp vl vu vg vt vs : ByteArray) : Option Hd := if (numOk false vu && numOk false vg && numOk true vt && numOk false vs) = true then
  some { h with name := newStr vp h.name, link := newStr vl h.link, uid := newNum false vu h.uid, gid := newNum false vg h.gid, time := newNum true vt h.time, size := newNum false vs h.size } else none
def applyR (o : Option Hd) : Value := .tuple #[.agg (match o with
  | some h => h.cells
  | none => Hd.zero.cells), .int .i64 (match o with
  | some _ => 0
  | none => 4)]
/-- What the loops find in a world: one's own blocks from w's heap on; the header's variable, the result's. -/
structure Aenv (w : World) (h : Hd) (W : World) : Prop where
  below : Below w.heap.size w W
  hd : W.heap[w.heap.size]? = some (.cells h.cells 25 (0, 0))
  res : W.heap[w.heap.size + 1]? = some (.cells Hd.zero.cells 25 (0, 0))
theorem Aenv.grown {w W W' : World} {h : Hd} {row : Option Nat} (e : Aenv w h W) (g : W.grownBy W' row) (hr : ∀ k, row = some k → w.heap.size + 2 ≤ k) : Aenv w h W' where
  below := e.below.grown g e.below.size (fun k hk => by have := hr k hk; omega)
  hd := (g.block _ (Array.getElem?_eq_some_iff.1 e.hd).1 (fun hk => by have := hr _ hk.symm; omega)).trans e.hd
  res := (g.block _ (Array.getElem?_eq_some_iff.1 e.res).1 (fun hk => by have := hr _ hk.symm; omega)).trans e.res
theorem Aenv.next {w W W' : World} {h : Hd} (e : Aenv w h W) (hb : Below W.heap.size W W') : Aenv w h W' where
  below := below_then e.below e.below.size hb
  hd := (hb.block _ (Array.getElem?_eq_some_iff.1 e.hd).1).trans e.hd
  res := (hb.block _ (Array.getElem?_eq_some_iff.1 e.res).1).trans e.res
theorem Aenv.put {w W : World} {h h' : Hd} (e : Aenv w h W) (j : Nat) (v : Value) (hc : h.cells.setIfInBounds j v = h'.cells) : Aenv w h' (W.setCell ⟨w.heap.size, j, none⟩ v) where
  below := below_set e.below (Nat.le_refl _)
  hd := blk_put e.hd j v hc
  res := (Below.heap_setCell W ⟨w.heap.size, j, none⟩ _ (w.heap.size + 1) (by show w.heap.size + 1 ≠ w.heap.size; omega)).trans e.res
theorem blk_at {W : World} {g t : Nat} {cs : Array Value} (h : W.heap[g]? = some (.cells cs t (0, 0))) (j : Nat) {v : Value} (hv : cs[j]? = some v) : W.cell? ⟨g, j, none⟩ = some v ∧ W.frozen? ⟨g, j, none⟩ = false := by
  constructor
  · simp [World.cell?, h, hv]
  · simp [World.frozen?, h]
/-- The result's variable, stored whole. -/
theorem res_put {w W : World} (k : Hd) (hb : Below w.heap.size w W) (hres : W.heap[w.heap.size + 1]? = some (.cells Hd.zero.cells 25 (0, 0))) :
    (((((((((W.setCell ⟨w.heap.size + 1, 0, none⟩ (.string k.name)).setCell ⟨w.heap.size + 1, 1, none⟩ (.string k.link)).setCell ⟨w.heap.size + 1, 2, none⟩ (.int .u8 k.kind)).setCell ⟨w.heap.size + 1, 3, none⟩ (.int .i64 k.mode)).setCell ⟨w.heap.size + 1, 4, none⟩ (.int .i64 k.uid)).setCell ⟨w.heap.size + 1, 5, none⟩ (.int .i64 k.gid)).setCell ⟨w.heap.size + 1, 6, none⟩ (.int .i64 k.time)).setCell ⟨w.heap.size + 1, 7, none⟩ (.int .i64 k.size)).setCell ⟨w.heap.size + 1, 8, none⟩ (.bool k.gnu)).heap[w.heap.size + 1]? = some (.cells k.cells 25 (0, 0)) ∧ Below w.heap.size w (((((((((W.setCell ⟨w.heap.size + 1, 0, none⟩ (.string k.name)).setCell ⟨w.heap.size + 1, 1, none⟩ (.string k.link)).setCell ⟨w.heap.size + 1, 2, none⟩ (.int .u8 k.kind)).setCell ⟨w.heap.size + 1, 3, none⟩ (.int .i64 k.mode)).setCell ⟨w.heap.size + 1, 4, none⟩ (.int .i64 k.uid)).setCell ⟨w.heap.size + 1, 5, none⟩ (.int .i64 k.gid)).setCell ⟨w.heap.size + 1, 6, none⟩ (.int .i64 k.time)).setCell ⟨w.heap.size + 1, 7, none⟩ (.int .i64 k.size)).setCell ⟨w.heap.size + 1, 8, none⟩ (.bool k.gnu)) := by
  have r0 : W.heap[w.heap.size + 1]? = some (.cells #[.string ⟨#[]⟩, .string ⟨#[]⟩, .int .u8 0, .int .i64 0, .int .i64 0, .int .i64 0, .int .i64 0, .int .i64 0, .bool false] 25 (0, 0)) := hres
  clear hres
  obtain ⟨W1, h1⟩ : ∃ X, W.setCell ⟨w.heap.size + 1, 0, none⟩ (.string k.name) = X := ⟨_, rfl⟩
  have r1 : W1.heap[w.heap.size + 1]? = some (.cells #[.string k.name, .string ⟨#[]⟩, .int .u8 0, .int .i64 0, .int .i64 0, .int .i64 0, .int .i64 0, .int .i64 0, .bool false] 25 (0, 0)) := by rw [← h1]; exact blk_put r0 0 _ rfl
  have b1 : Below w.heap.size w W1 := by rw [← h1]; exact below_set hb (Nat.le_succ _)
  obtain ⟨W2, h2⟩ : ∃ X, W1.setCell ⟨w.heap.size + 1, 1, none⟩ (.string k.link) = X := ⟨_, rfl⟩
  have r2 : W2.heap[w.heap.size + 1]? = some (.cells #[.string k.name, .string k.link, .int .u8 0, .int .i64 0, .int .i64 0, .int .i64 0, .int .i64 0, .int .i64 0, .bool false] 25 (0, 0)) := by rw [← h2]; exact blk_put r1 1 _ rfl
  have b2 : Below w.heap.size w W2 := by rw [← h2]; exact below_set b1 (Nat.le_succ _)
  obtain ⟨W3, h3⟩ : ∃ X, W2.setCell ⟨w.heap.size + 1, 2, none⟩ (.int .u8 k.kind) = X := ⟨_, rfl⟩
  have r3 : W3.heap[w.heap.size + 1]? = some (.cells #[.string k.name, .string k.link, .int .u8 k.kind, .int .i64 0, .int .i64 0, .int .i64 0, .int .i64 0, .int .i64 0, .bool false] 25 (0, 0)) := by rw [← h3]; exact blk_put r2 2 _ rfl
  have b3 : Below w.heap.size w W3 := by rw [← h3]; exact below_set b2 (Nat.le_succ _)
  obtain ⟨W4, h4⟩ : ∃ X, W3.setCell ⟨w.heap.size + 1, 3, none⟩ (.int .i64 k.mode) = X := ⟨_, rfl⟩
  have r4 : W4.heap[w.heap.size + 1]? = some (.cells #[.string k.name, .string k.link, .int .u8 k.kind, .int .i64 k.mode, .int .i64 0, .int .i64 0, .int .i64 0, .int .i64 0, .bool false] 25 (0, 0)) := by rw [← h4]; exact blk_put r3 3 _ rfl
  have b4 : Below w.heap.size w W4 := by rw [← h4]; exact below_set b3 (Nat.le_succ _)
  obtain ⟨W5, h5⟩ : ∃ X, W4.setCell ⟨w.heap.size + 1, 4, none⟩ (.int .i64 k.uid) = X := ⟨_, rfl⟩
  have r5 : W5.heap[w.heap.size + 1]? = some (.cells #[.string k.name, .string k.link, .int .u8 k.kind, .int .i64 k.mode, .int .i64 k.uid, .int .i64 0, .int .i64 0, .int .i64 0, .bool false] 25 (0, 0)) := by rw [← h5]; exact blk_put r4 4 _ rfl
  have b5 : Below w.heap.size w W5 := by rw [← h5]; exact below_set b4 (Nat.le_succ _)
  obtain ⟨W6, h6⟩ : ∃ X, W5.setCell ⟨w.heap.size + 1, 5, none⟩ (.int .i64 k.gid) = X := ⟨_, rfl⟩
  have r6 : W6.heap[w.heap.size + 1]? = some (.cells #[.string k.name, .string k.link, .int .u8 k.kind, .int .i64 k.mode, .int .i64 k.uid, .int .i64 k.gid, .int .i64 0, .int .i64 0, .bool false] 25 (0, 0)) := by rw [← h6]; exact blk_put r5 5 _ rfl
  have b6 : Below w.heap.size w W6 := by rw [← h6]; exact below_set b5 (Nat.le_succ _)
  obtain ⟨W7, h7⟩ : ∃ X, W6.setCell ⟨w.heap.size + 1, 6, none⟩ (.int .i64 k.time) = X := ⟨_, rfl⟩
  have r7 : W7.heap[w.heap.size + 1]? = some (.cells #[.string k.name, .string k.link, .int .u8 k.kind, .int .i64 k.mode, .int .i64 k.uid, .int .i64 k.gid, .int .i64 k.time, .int .i64 0, .bool false] 25 (0, 0)) := by rw [← h7]; exact blk_put r6 6 _ rfl
  have b7 : Below w.heap.size w W7 := by rw [← h7]; exact below_set b6 (Nat.le_succ _)
  obtain ⟨W8, h8⟩ : ∃ X, W7.setCell ⟨w.heap.size + 1, 7, none⟩ (.int .i64 k.size) = X := ⟨_, rfl⟩
  have r8 : W8.heap[w.heap.size + 1]? = some (.cells #[.string k.name, .string k.link, .int .u8 k.kind, .int .i64 k.mode, .int .i64 k.uid, .int .i64 k.gid, .int .i64 k.time, .int .i64 k.size, .bool false] 25 (0, 0)) := by rw [← h8]; exact blk_put r7 7 _ rfl
  have b8 : Below w.heap.size w W8 := by rw [← h8]; exact below_set b7 (Nat.le_succ _)
  obtain ⟨W9, h9⟩ : ∃ X, W8.setCell ⟨w.heap.size + 1, 8, none⟩ (.bool k.gnu) = X := ⟨_, rfl⟩
  have r9 : W9.heap[w.heap.size + 1]? = some (.cells #[.string k.name, .string k.link, .int .u8 k.kind, .int .i64 k.mode, .int .i64 k.uid, .int .i64 k.gid, .int .i64 k.time, .int .i64 k.size, .bool k.gnu] 25 (0, 0)) := by rw [← h9]; exact blk_put r8 8 _ rfl
  have b9 : Below w.heap.size w W9 := by rw [← h9]; exact below_set b8 (Nat.le_succ _)
  rw [h1, h2, h3, h4, h5, h6, h7, h8, h9]
  exact ⟨r9, b9⟩
theorem head_info : (Tryd.prog.info? 25).map (·.size) = some 9 := by kernel_rfl
set_option maxRecDepth 100000 in
set_option maxHeartbeats 2000000 in
theorem apply_walk (sp : Option Addr) (g : List S42) (h : Hd) (A : Option Addr) (c : Nat) (own : List S42) (w : World) (hS : StateIn w sp g) (hr : Kd.C k42 w A own.length own) (hn : own.length ≤ 1000000000000000) (hg : g.length ≤ 1000000000000000) (hErr : ErrsOk w) (hz : ∀ key, (valueOf g own key).size ≤ 281474976710656) :
    Calls Tryd.prog 11 #[.pointer sp, .agg h.cells, .slice A own.length c] w fun e w' => e = .returned (applyR (applyS h (valueOf g own bPath) (valueOf g own bLink) (valueOf g own bUid) (valueOf g own bGid) (valueOf g own bTime) (valueOf g own bSize))) ∧ Below w.heap.size w w' := by
  have HERR := Aside0.mk hErr
  have HZ := Aside0.mk hz
  obtain ⟨rv, hrv⟩ : ∃ rv, applyR (applyS h (valueOf g own bPath) (valueOf g own bLink) (valueOf g own bUid) (valueOf g own bGid) (valueOf g own bTime) (valueOf g own bSize)) = rv := ⟨_, rfl⟩
  rw [hrv]
  have HRV := Aside0.mk hrv
  clear hrv hErr hz
  have hmm := @run_makeMap Tryd.prog
  obtain ⟨w0, hw0⟩ : ∃ w0, ((w.alloc (.cells h.cells 25)).alloc (.cells Hd.zero.cells 25)).alloc (.map #[] 0) = w0 := ⟨_, rfl⟩
  have o0 : w0.ownsMap Tryd.prog 9 (ptrE w.heap.size) (w.heap.size + 1 + 1) 0 (.map []) := by
    rw [← hw0]
    have := World.ownsMap_made (H := Unit) ((w.alloc (.cells h.cells 25)).alloc (.cells Hd.zero.cells 25)) Tryd.prog 9 (ptrE w.heap.size)
    simpa using this
  obtain ⟨w1, e1, o1, g1⟩ := o0.update keyLaw Tryd.underlying54 (by decide) (key_mk bPath (by decide)) (ptrE_mk w.heap.size 0)
  obtain ⟨w2, e2, o2, g2⟩ := o1.update keyLaw Tryd.underlying54 (by decide) (key_mk bLink (by decide)) (ptrE_mk w.heap.size 1)
  obtain ⟨w3, e3, hrg, g3, hs3⟩ := o2.range keyLaw Tryd.underlying54
  have hsz0 : w0.heap.size = w.heap.size + 3 := by rw [← hw0]; simp
  have E0 : Aenv w h w0 := by
    rw [← hw0]
    refine ⟨below_alloc (below_alloc (below_alloc (Below.refl _ _) _) _) _, ?_, ?_⟩
    · exact (Below.heap_alloc _ _ _ (by simp <;> omega)).trans ((Below.heap_alloc _ _ _ (by simp)).trans (World.alloc_heap_new w _))
    · have := World.alloc_heap_new (w.alloc (.cells h.cells 25)) (.cells Hd.zero.cells 25)
      rw [World.size_alloc] at this
      exact (Below.heap_alloc _ _ _ (by simp)).trans this
  have E3 : Aenv w h w3 := ((E0.grown g1 (fun k hk => by cases hk; omega)).grown g2 (fun k hk => by cases hk; omega)).grown g3 (fun k hk => by cases hk)
  have hr2 : w.heap.size + 3 ≤ w2.heap.size := by have := g1.size; have := g2.size; omega
  obtain ⟨vp, hvp⟩ : ∃ vp, valueOf g own bPath = vp := ⟨_, rfl⟩
  obtain ⟨vl, hvl⟩ : ∃ vl, valueOf g own bLink = vl := ⟨_, rfl⟩
  have HS := Aside0.mk hS
  have HR := Aside0.mk hr
  have cV : ∀ (k : ByteArray) (H : Hd) (W : World), Aenv w H W → Calls Tryd.prog 13 #[.pointer sp, .string k, .slice A own.length c] W fun e w' => e = .returned (.string (valueOf g own k)) ∧ Aenv w H w' ∧ Below W.heap.size W w' := fun k H W hE => (value_walk sp g k A c own W (HS.out.keep hE.below) (Kd.C_below HR.out hE.below) hn hg).mono (by
    rintro e w' ⟨rfl, hb⟩
    exact ⟨rfl, hE.next hb, hb⟩)
  have cP := cV bPath
  have cL := cV bLink
  rw [hvp] at cP
  rw [hvl] at cL
  have hd0 : hd1 h vp vl (Maps.has D1) = h := by cases h; rfl
  have HRG : Aside0 (w3.ranges Tryd.prog 9 (ptrE w.heap.size) (w.heap.size + 1 + 1) w2.heap.size 2 D1 (Maps.has D1) (Maps.size D1)) := ⟨hrg⟩
  have HE3 : Aside0 (Aenv w (hd1 h vp vl (Maps.has D1)) w3) := ⟨by rw [hd0]; exact E3⟩
  clear hrg E3 hd0 g1 g2 g3 o0 o1 o2 E0 hs3
  rw [← hw0] at e1
  have hcz : Hd.zero.cells = #[.string ⟨#[]⟩, .string ⟨#[]⟩, .int .u8 0, .int .i64 0, .int .i64 0, .int .i64 0, .int .i64 0, .int .i64 0, .bool false] := rfl
  rw [hcz] at e1
  unfold bPath at e1
  unfold bLink at e2
  unfold Hd.cells at e1 ⊢
  clear hw0 hsz0
  go_enter Tryd.func11, Tryd.ntmps11
  go_wp2
  go_loopw [8, 9] (fun _ _ wr => ∃ (left : Lit → Bool) (cnt : Nat), Aside0 (wr.ranges Tryd.prog 9 (ptrE w.heap.size) (w.heap.size + 1 + 1) w2.heap.size 2 D1 left cnt) ∧ Aside0 (Aenv w (hd1 h vp vl left) wr)) (fun _ _ wr => wr.rangeLeft (w.heap.size + 1 + 1) w2.heap.size)
  case atStart => exact ⟨_, _, HRG, HE3⟩
  case round =>
    obtain ⟨left, cnt, hrg, hE⟩ := hrel
    go_wp2_with (at_next; refine wpList_next_ranges _ rfl _ rfl 9 keyLaw (ptrE w.heap.size) (fun s : ByteArray => Value.string s) (fun o : Nat => .pointer (some ⟨w.heap.size, o, none⟩)) (fun key kl hk => by obtain ⟨s, rfl, _⟩ := key_inv hk; exact ⟨s, rfl⟩) (fun v y hv => by obtain ⟨o, rfl, _⟩ := ptrE_inv hv; exact ⟨o, rfl⟩) _ _ _ _ _ _ rfl hrg.out ?_ ?_)
    · intro _ hl0
      obtain ⟨wz, hwz⟩ : ∃ wz, wz = wr := ⟨_, rfl⟩
      subst hwz
      have hl1 := hl0 (lk bPath)
      have hl2 := hl0 (lk bLink)
      obtain ⟨h1, hh1⟩ : ∃ h1, ({ h with name := newStr vp h.name, link := newStr vl h.link } : Hd) = h1 := ⟨_, rfl⟩
      have hE1 : Aenv w h1 wz := by
        have := hE.out
        unfold hd1 at this
        rw [hl1, hl2] at this
        rw [← hh1]
        exact this
      have hp0 : (wz.alloc (.map #[] 0)).ownsMap Tryd.prog 9 (ptrE w.heap.size) wz.heap.size 0 (.map []) := World.ownsMap_made (H := Unit) wz Tryd.prog 9 (ptrE w.heap.size)
      obtain ⟨x1, f1, p1, q1⟩ := hp0.update keyLaw Tryd.underlying56 (by decide) (key_mk bUid (by decide)) (ptrE_mk w.heap.size 4)
      obtain ⟨x2, f2, p2, q2⟩ := p1.update keyLaw Tryd.underlying56 (by decide) (key_mk bGid (by decide)) (ptrE_mk w.heap.size 5)
      obtain ⟨x3, f3, p3, q3⟩ := p2.update keyLaw Tryd.underlying56 (by decide) (key_mk bTime (by decide)) (ptrE_mk w.heap.size 6)
      obtain ⟨x4, f4, p4, q4⟩ := p3.update keyLaw Tryd.underlying56 (by decide) (key_mk bSize (by decide)) (ptrE_mk w.heap.size 7)
      obtain ⟨x5, f5, hrg5, q5, hs5⟩ := p4.range keyLaw Tryd.underlying56
      have hwr : w.heap.size + 2 ≤ wz.heap.size := by
        have := (Array.getElem?_eq_some_iff.1 hE1.res).1
        omega
      have hx5 : wz.heap.size < x4.heap.size := by
        have := q1.size; have := q2.size; have := q3.size; have := q4.size
        have h9 : (wz.alloc (.map #[] 0)).heap.size = wz.heap.size + 1 := by simp
        omega
      have G5 : Aenv w h1 x5 := (((((hE1.next (below_alloc (Below.refl _ wz) _)).grown q1 (fun k hk => by cases hk; omega)).grown q2 (fun k hk => by cases hk; omega)).grown q3 (fun k hk => by cases hk; omega)).grown q4 (fun k hk => by cases hk; omega)).grown q5 (fun k hk => by cases hk)
      obtain ⟨vu, hvu⟩ : ∃ v, valueOf g own bUid = v := ⟨_, rfl⟩
      obtain ⟨vg, hvg⟩ : ∃ v, valueOf g own bGid = v := ⟨_, rfl⟩
      obtain ⟨vt, hvt⟩ : ∃ v, valueOf g own bTime = v := ⟨_, rfl⟩
      obtain ⟨vs, hvs⟩ : ∃ v, valueOf g own bSize = v := ⟨_, rfl⟩
      have c1 := cV bUid
      have c2 := cV bGid
      have c3 := cV bTime
      have c4 := cV bSize
      rw [hvu] at c1
      rw [hvg] at c2
      rw [hvt] at c3
      rw [hvs] at c4
      have hd0 : hd2 h1 vu vg vt vs (Maps.has D2) = h1 := by cases h1; rfl
      have HRG5 : Aside0 (x5.ranges Tryd.prog 9 (ptrE w.heap.size) wz.heap.size x4.heap.size 4 D2 (Maps.has D2) (Maps.size D2)) := ⟨hrg5⟩
      have HG5 : Aside0 (Aenv w (hd2 h1 vu vg vt vs (Maps.has D2)) x5) := ⟨by rw [hd0]; exact G5⟩
      have HOK5 : Aside0 (ok2 vu vg vt vs (Maps.has D2)) := ⟨⟨fun h => absurd h (by decide), fun h => absurd h (by decide), fun h => absurd h (by decide), fun h => absurd h (by decide)⟩⟩
      clear hrg5 hd0 q1 q2 q3 q4 q5 p1 p2 p3 p4 hp0 hE hrg hl0 hl1 hl2 hE1 G5 hs5 cP cL e1 e2 e3
      unfold bUid at f1
      unfold bGid at f2
      unfold bTime at f3
      unfold bSize at f4
      go_wp2
      go_loopw [11, 12] (fun _ _ yr => ∃ (left : Lit → Bool) (cnt : Nat), Aside0 (yr.ranges Tryd.prog 9 (ptrE w.heap.size) wz.heap.size x4.heap.size 4 D2 left cnt) ∧ Aside0 (Aenv w (hd2 h1 vu vg vt vs left) yr) ∧ Aside0 (ok2 vu vg vt vs left)) (fun _ _ yr => yr.rangeLeft wz.heap.size x4.heap.size)
      case atStart => exact ⟨_, _, HRG5, HG5, HOK5⟩
      case round =>
        obtain ⟨left2, cnt2, hrg2, hE2, hok2⟩ := hrel
        go_wp2_with (at_next; refine wpList_next_ranges _ rfl _ rfl 9 keyLaw (ptrE w.heap.size) (fun s : ByteArray => Value.string s) (fun o : Nat => .pointer (some ⟨w.heap.size, o, none⟩)) (fun key kl hk => by obtain ⟨s, rfl, _⟩ := key_inv hk; exact ⟨s, rfl⟩) (fun v y hv => by obtain ⟨o, rfl, _⟩ := ptrE_inv hv; exact ⟨o, rfl⟩) _ _ _ _ _ _ rfl hrg2.out ?_ ?_)
        · intro _ hl0
          have hE8 := hE2.out
          have hOK := hok2.out
          have l1 := hl0 (lk bUid)
          have l2 := hl0 (lk bGid)
          have l3 := hl0 (lk bTime)
          have l4 := hl0 (lk bSize)
          have hall : (numOk false vu && numOk false vg && numOk true vt && numOk false vs) = true := by rw [hOK.1 l1, hOK.2.1 l2, hOK.2.2.1 l3, hOK.2.2.2 l4]; rfl
          unfold hd2 at hE8
          rw [l1, l2, l3, l4] at hE8
          obtain ⟨h3, hh3⟩ : ∃ h3, ({ h1 with uid := newNum false vu h1.uid, gid := newNum false vg h1.gid, time := newNum true vt h1.time, size := newNum false vs h1.size } : Hd) = h3 := ⟨_, rfl⟩
          have hE9 : Aenv w h3 wr := by rw [← hh3]; exact hE8
          have HEND : Aside0 (rv = applyR (some h3)) := ⟨by rw [← HRV.out, hvp, hvl, hvu, hvg, hvt, hvs]; unfold applyS; rw [if_pos hall, ← hh3, ← hh1]⟩
          clear hE8 hOK l1 l2 l3 l4 hall hh3 hl0 hE2 hok2 hrg2 c1 c2 c3 c4 cV
          obtain ⟨hr0, hrf0⟩ := blk_at hE9.res 0 rfl
          obtain ⟨hd0, hdf0⟩ := blk_at (v := .string h3.name) hE9.hd 0 rfl
          obtain ⟨hr1, hrf1⟩ := blk_at hE9.res 1 rfl
          obtain ⟨hd1, hdf1⟩ := blk_at (v := .string h3.link) hE9.hd 1 rfl
          obtain ⟨hr2, hrf2⟩ := blk_at hE9.res 2 rfl
          obtain ⟨hd2, hdf2⟩ := blk_at (v := .int .u8 h3.kind) hE9.hd 2 rfl
          obtain ⟨hr3, hrf3⟩ := blk_at hE9.res 3 rfl
          obtain ⟨hd3, hdf3⟩ := blk_at (v := .int .i64 h3.mode) hE9.hd 3 rfl
          obtain ⟨hr4, hrf4⟩ := blk_at hE9.res 4 rfl
          obtain ⟨hd4, hdf4⟩ := blk_at (v := .int .i64 h3.uid) hE9.hd 4 rfl
          obtain ⟨hr5, hrf5⟩ := blk_at hE9.res 5 rfl
          obtain ⟨hd5, hdf5⟩ := blk_at (v := .int .i64 h3.gid) hE9.hd 5 rfl
          obtain ⟨hr6, hrf6⟩ := blk_at hE9.res 6 rfl
          obtain ⟨hd6, hdf6⟩ := blk_at (v := .int .i64 h3.time) hE9.hd 6 rfl
          obtain ⟨hr7, hrf7⟩ := blk_at hE9.res 7 rfl
          obtain ⟨hd7, hdf7⟩ := blk_at (v := .int .i64 h3.size) hE9.hd 7 rfl
          obtain ⟨hr8, hrf8⟩ := blk_at hE9.res 8 rfl
          obtain ⟨hd8, hdf8⟩ := blk_at (v := .bool h3.gnu) hE9.hd 8 rfl
          go_wp2
          obtain ⟨hw1, hw2⟩ := res_put h3 hE9.below hE9.res
          exact bodyPost_ret (results_ct rfl _ _ _ _ h3.cells (0, 0) _ rfl hw1 Tryd.underlying25 rfl head_info) rfl ⟨by rw [HEND.out]; rfl, hw2⟩
        intro x o kl y ps y4 cnt3 hkey hlk hv hat hrg3 hlt hg2 hs2 hen
        obtain ⟨x', ex, rfl⟩ := key_inv hkey
        cases ex
        have hy : y = at_ o := by rw [ptrE_mk] at hv; cases hv; rfl
        subst hy
        have hE6 := Aside0.mk (hE2.out.grown hg2 (fun k hk => by cases hk; omega))
        have HG2 := Aside0.mk hrg3
        have hm2 : Aside0 (y4.rangeLeft wz.heap.size x4.heap.size < wr.rangeLeft wz.heap.size x4.heap.size) := ⟨by rw [hrg3.left_eq, hrg2.out.left_eq]; exact hlt⟩
        clear hrg3
        have hne1 : wz.heap.size ≠ w.heap.size := by omega
        have hne2 : x4.heap.size ≠ w.heap.size := by omega
        rcases D2_at (s := x) (o := o) hat with ⟨rfl, rfl⟩ | ⟨rfl, rfl⟩ | ⟨rfl, rfl⟩ | ⟨rfl, rfl⟩
        · have HLK : Aside0 (left2 (lk bUid) = true) := ⟨hlk⟩
          have hkt : (bUid.toList == [109, 116, 105, 109, 101]) = false := by decide +kernel
          have hzv : vu.size ≤ 281474976710656 := by rw [← hvu]; exact HZ.out bUid
          have cN := fun W (hW : Below w.heap.size w W) => attr_whole.walk vu W (HERR.out.keep hW) hzv
          clear hlk hrg2 hE2 hlt hg2 hs2 hv hat hkey
          by_cases hv0 : vu.toList = []
          · have hq : (vu.toList == []) = true := by rw [hv0]; rfl
            go_wp2_with (go_at_call 13; refine (c1 _ _ hE6.out).mono ?_; rintro e y5 ⟨rfl, hE5, hb5⟩)
            have hk5 := HG2.out.kept (grown_of_below hb5 none) (by simp) (by simp)
            exact ⟨⟨_, _, ⟨hk5⟩, ⟨by rw [hd2_uid_same HLK.out hv0]; exact hE5⟩, ⟨ok2_uid hok2.out (by unfold numOk; rw [hq]; rfl)⟩⟩, by rw [hk5.left_eq, ← HG2.out.left_eq]; exact hm2.out⟩
          · have hq : (vu.toList == []) = false := by simpa using hv0
            cases hnum : numS false vu with
            | some n =>
              have hnS : wholeS vu.data.toList = some n := hnum
              rw [hnS] at cN
              simp only [Option.isSome_some] at cN
              have HNUM := Aside0.mk hnum
              clear hnum hnS
              go_wp2_with (first
                | (go_at_call 13; refine (c1 _ _ hE6.out).mono ?_; rintro e y5 ⟨rfl, hE5, hb5⟩)
                | (go_at_call 18; refine (cN _ hE5.below).mono ?_; rintro e y6 ⟨m, rfl, hm6, hb6⟩; obtain rfl := hm6 n rfl; have hE7 := hE5.next hb6; obtain ⟨hc5, hf5⟩ := blk_at hE7.hd 4 rfl))
              have hk6 := ((HG2.out.kept (grown_of_below hb5 none) (by simp) (by simp)).kept (grown_of_below hb6 none) (by simp) (by simp)).kept (grown_set y6 w.heap.size 4 (.int .i64 (n : Int))) (by simp; omega) (by simp; omega)
              exact ⟨⟨_, _, ⟨hk6⟩, ⟨by rw [hd2_uid]; exact hE7.put 4 (.int .i64 (n : Int)) (by unfold newNum; rw [if_neg hv0, HNUM.out]; rfl)⟩, ⟨ok2_uid hok2.out (by unfold numOk; rw [HNUM.out]; simp)⟩⟩, by rw [hk6.left_eq, ← HG2.out.left_eq]; exact hm2.out⟩
            | none =>
              have hnS : wholeS vu.data.toList = none := hnum
              rw [hnS] at cN
              simp only [Option.isSome_none] at cN
              have hno : numOk false vu = false := by unfold numOk; rw [hnum, hq]; rfl
              have HNO : Aside0 (rv = applyR none) := ⟨by rw [← HRV.out, hvu]; unfold applyS; rw [hno]; simp⟩
              clear hnum hnS hno
              go_wp2_with (first
                | (go_at_call 13; refine (c1 _ _ hE6.out).mono ?_; rintro e y5 ⟨rfl, hE5, hb5⟩)
                | (go_at_call 18; refine (cN _ hE5.below).mono ?_; rintro e y6 ⟨m, rfl, hm6, hb6⟩; have hE7 := hE5.next hb6; clear hm6; obtain ⟨hr0, hrf0⟩ := blk_at hE7.res 0 rfl; obtain ⟨hr1, hrf1⟩ := blk_at hE7.res 1 rfl; obtain ⟨hr2, hrf2⟩ := blk_at hE7.res 2 rfl; obtain ⟨hr3, hrf3⟩ := blk_at hE7.res 3 rfl; obtain ⟨hr4, hrf4⟩ := blk_at hE7.res 4 rfl; obtain ⟨hr5, hrf5⟩ := blk_at hE7.res 5 rfl; obtain ⟨hr6, hrf6⟩ := blk_at hE7.res 6 rfl; obtain ⟨hr7, hrf7⟩ := blk_at hE7.res 7 rfl; obtain ⟨hr8, hrf8⟩ := blk_at hE7.res 8 rfl))
              obtain ⟨hw1, hw2⟩ := res_put Hd.zero hE7.below hE7.res
              exact bodyPost_ret (results_ct rfl _ _ _ _ Hd.zero.cells (0, 0) _ rfl hw1 Tryd.underlying25 rfl head_info) rfl ⟨by rw [HNO.out]; rfl, hw2⟩
        · have HLK : Aside0 (left2 (lk bGid) = true) := ⟨hlk⟩
          have hkt : (bGid.toList == [109, 116, 105, 109, 101]) = false := by decide +kernel
          have hzv : vg.size ≤ 281474976710656 := by rw [← hvg]; exact HZ.out bGid
          have cN := fun W (hW : Below w.heap.size w W) => attr_whole.walk vg W (HERR.out.keep hW) hzv
          clear hlk hrg2 hE2 hlt hg2 hs2 hv hat hkey
          by_cases hv0 : vg.toList = []
          · have hq : (vg.toList == []) = true := by rw [hv0]; rfl
            go_wp2_with (go_at_call 13; refine (c2 _ _ hE6.out).mono ?_; rintro e y5 ⟨rfl, hE5, hb5⟩)
            have hk5 := HG2.out.kept (grown_of_below hb5 none) (by simp) (by simp)
            exact ⟨⟨_, _, ⟨hk5⟩, ⟨by rw [hd2_gid_same HLK.out hv0]; exact hE5⟩, ⟨ok2_gid hok2.out (by unfold numOk; rw [hq]; rfl)⟩⟩, by rw [hk5.left_eq, ← HG2.out.left_eq]; exact hm2.out⟩
          · have hq : (vg.toList == []) = false := by simpa using hv0
            cases hnum : numS false vg with
            | some n =>
              have hnS : wholeS vg.data.toList = some n := hnum
              rw [hnS] at cN
              simp only [Option.isSome_some] at cN
              have HNUM := Aside0.mk hnum
              clear hnum hnS
              go_wp2_with (first
                | (go_at_call 13; refine (c2 _ _ hE6.out).mono ?_; rintro e y5 ⟨rfl, hE5, hb5⟩)
                | (go_at_call 18; refine (cN _ hE5.below).mono ?_; rintro e y6 ⟨m, rfl, hm6, hb6⟩; obtain rfl := hm6 n rfl; have hE7 := hE5.next hb6; obtain ⟨hc5, hf5⟩ := blk_at hE7.hd 5 rfl))
              have hk6 := ((HG2.out.kept (grown_of_below hb5 none) (by simp) (by simp)).kept (grown_of_below hb6 none) (by simp) (by simp)).kept (grown_set y6 w.heap.size 5 (.int .i64 (n : Int))) (by simp; omega) (by simp; omega)
              exact ⟨⟨_, _, ⟨hk6⟩, ⟨by rw [hd2_gid]; exact hE7.put 5 (.int .i64 (n : Int)) (by unfold newNum; rw [if_neg hv0, HNUM.out]; rfl)⟩, ⟨ok2_gid hok2.out (by unfold numOk; rw [HNUM.out]; simp)⟩⟩, by rw [hk6.left_eq, ← HG2.out.left_eq]; exact hm2.out⟩
            | none =>
              have hnS : wholeS vg.data.toList = none := hnum
              rw [hnS] at cN
              simp only [Option.isSome_none] at cN
              have hno : numOk false vg = false := by unfold numOk; rw [hnum, hq]; rfl
              have HNO : Aside0 (rv = applyR none) := ⟨by rw [← HRV.out, hvg]; unfold applyS; rw [hno]; simp⟩
              clear hnum hnS hno
              go_wp2_with (first
                | (go_at_call 13; refine (c2 _ _ hE6.out).mono ?_; rintro e y5 ⟨rfl, hE5, hb5⟩)
                | (go_at_call 18; refine (cN _ hE5.below).mono ?_; rintro e y6 ⟨m, rfl, hm6, hb6⟩; have hE7 := hE5.next hb6; clear hm6; obtain ⟨hr0, hrf0⟩ := blk_at hE7.res 0 rfl; obtain ⟨hr1, hrf1⟩ := blk_at hE7.res 1 rfl; obtain ⟨hr2, hrf2⟩ := blk_at hE7.res 2 rfl; obtain ⟨hr3, hrf3⟩ := blk_at hE7.res 3 rfl; obtain ⟨hr4, hrf4⟩ := blk_at hE7.res 4 rfl; obtain ⟨hr5, hrf5⟩ := blk_at hE7.res 5 rfl; obtain ⟨hr6, hrf6⟩ := blk_at hE7.res 6 rfl; obtain ⟨hr7, hrf7⟩ := blk_at hE7.res 7 rfl; obtain ⟨hr8, hrf8⟩ := blk_at hE7.res 8 rfl))
              obtain ⟨hw1, hw2⟩ := res_put Hd.zero hE7.below hE7.res
              exact bodyPost_ret (results_ct rfl _ _ _ _ Hd.zero.cells (0, 0) _ rfl hw1 Tryd.underlying25 rfl head_info) rfl ⟨by rw [HNO.out]; rfl, hw2⟩
        · have HLK : Aside0 (left2 (lk bTime) = true) := ⟨hlk⟩
          have hkt : (bTime.toList == [109, 116, 105, 109, 101]) = true := by decide +kernel
          have hzv : vt.size ≤ 281474976710656 := by rw [← hvt]; exact HZ.out bTime
          have cN := fun W (hW : Below w.heap.size w W) => attr_seconds.walk vt W (HERR.out.keep hW) hzv
          clear hlk hrg2 hE2 hlt hg2 hs2 hv hat hkey
          by_cases hv0 : vt.toList = []
          · have hq : (vt.toList == []) = true := by rw [hv0]; rfl
            go_wp2_with (go_at_call 13; refine (c3 _ _ hE6.out).mono ?_; rintro e y5 ⟨rfl, hE5, hb5⟩)
            have hk5 := HG2.out.kept (grown_of_below hb5 none) (by simp) (by simp)
            exact ⟨⟨_, _, ⟨hk5⟩, ⟨by rw [hd2_time_same HLK.out hv0]; exact hE5⟩, ⟨ok2_time hok2.out (by unfold numOk; rw [hq]; rfl)⟩⟩, by rw [hk5.left_eq, ← HG2.out.left_eq]; exact hm2.out⟩
          · have hq : (vt.toList == []) = false := by simpa using hv0
            cases hnum : numS true vt with
            | some n =>
              have hnS : secondsS vt.data.toList = some n := hnum
              rw [hnS] at cN
              simp only [Option.isSome_some] at cN
              have HNUM := Aside0.mk hnum
              clear hnum hnS
              go_wp2_with (first
                | (go_at_call 13; refine (c3 _ _ hE6.out).mono ?_; rintro e y5 ⟨rfl, hE5, hb5⟩)
                | (go_at_call 19; refine (cN _ hE5.below).mono ?_; rintro e y6 ⟨m, rfl, hm6, hb6⟩; obtain rfl := hm6 n rfl; have hE7 := hE5.next hb6; obtain ⟨hc5, hf5⟩ := blk_at hE7.hd 6 rfl))
              have hk6 := ((HG2.out.kept (grown_of_below hb5 none) (by simp) (by simp)).kept (grown_of_below hb6 none) (by simp) (by simp)).kept (grown_set y6 w.heap.size 6 (.int .i64 (n : Int))) (by simp; omega) (by simp; omega)
              exact ⟨⟨_, _, ⟨hk6⟩, ⟨by rw [hd2_time]; exact hE7.put 6 (.int .i64 (n : Int)) (by unfold newNum; rw [if_neg hv0, HNUM.out]; rfl)⟩, ⟨ok2_time hok2.out (by unfold numOk; rw [HNUM.out]; simp)⟩⟩, by rw [hk6.left_eq, ← HG2.out.left_eq]; exact hm2.out⟩
            | none =>
              have hnS : secondsS vt.data.toList = none := hnum
              rw [hnS] at cN
              simp only [Option.isSome_none] at cN
              have hno : numOk true vt = false := by unfold numOk; rw [hnum, hq]; rfl
              have HNO : Aside0 (rv = applyR none) := ⟨by rw [← HRV.out, hvt]; unfold applyS; rw [hno]; simp⟩
              clear hnum hnS hno
              go_wp2_with (first
                | (go_at_call 13; refine (c3 _ _ hE6.out).mono ?_; rintro e y5 ⟨rfl, hE5, hb5⟩)
                | (go_at_call 19; refine (cN _ hE5.below).mono ?_; rintro e y6 ⟨m, rfl, hm6, hb6⟩; have hE7 := hE5.next hb6; clear hm6; obtain ⟨hr0, hrf0⟩ := blk_at hE7.res 0 rfl; obtain ⟨hr1, hrf1⟩ := blk_at hE7.res 1 rfl; obtain ⟨hr2, hrf2⟩ := blk_at hE7.res 2 rfl; obtain ⟨hr3, hrf3⟩ := blk_at hE7.res 3 rfl; obtain ⟨hr4, hrf4⟩ := blk_at hE7.res 4 rfl; obtain ⟨hr5, hrf5⟩ := blk_at hE7.res 5 rfl; obtain ⟨hr6, hrf6⟩ := blk_at hE7.res 6 rfl; obtain ⟨hr7, hrf7⟩ := blk_at hE7.res 7 rfl; obtain ⟨hr8, hrf8⟩ := blk_at hE7.res 8 rfl))
              obtain ⟨hw1, hw2⟩ := res_put Hd.zero hE7.below hE7.res
              exact bodyPost_ret (results_ct rfl _ _ _ _ Hd.zero.cells (0, 0) _ rfl hw1 Tryd.underlying25 rfl head_info) rfl ⟨by rw [HNO.out]; rfl, hw2⟩
        · have HLK : Aside0 (left2 (lk bSize) = true) := ⟨hlk⟩
          have hkt : (bSize.toList == [109, 116, 105, 109, 101]) = false := by decide +kernel
          have hzv : vs.size ≤ 281474976710656 := by rw [← hvs]; exact HZ.out bSize
          have cN := fun W (hW : Below w.heap.size w W) => attr_whole.walk vs W (HERR.out.keep hW) hzv
          clear hlk hrg2 hE2 hlt hg2 hs2 hv hat hkey
          by_cases hv0 : vs.toList = []
          · have hq : (vs.toList == []) = true := by rw [hv0]; rfl
            go_wp2_with (go_at_call 13; refine (c4 _ _ hE6.out).mono ?_; rintro e y5 ⟨rfl, hE5, hb5⟩)
            have hk5 := HG2.out.kept (grown_of_below hb5 none) (by simp) (by simp)
            exact ⟨⟨_, _, ⟨hk5⟩, ⟨by rw [hd2_size_same HLK.out hv0]; exact hE5⟩, ⟨ok2_size hok2.out (by unfold numOk; rw [hq]; rfl)⟩⟩, by rw [hk5.left_eq, ← HG2.out.left_eq]; exact hm2.out⟩
          · have hq : (vs.toList == []) = false := by simpa using hv0
            cases hnum : numS false vs with
            | some n =>
              have hnS : wholeS vs.data.toList = some n := hnum
              rw [hnS] at cN
              simp only [Option.isSome_some] at cN
              have HNUM := Aside0.mk hnum
              clear hnum hnS
              go_wp2_with (first
                | (go_at_call 13; refine (c4 _ _ hE6.out).mono ?_; rintro e y5 ⟨rfl, hE5, hb5⟩)
                | (go_at_call 18; refine (cN _ hE5.below).mono ?_; rintro e y6 ⟨m, rfl, hm6, hb6⟩; obtain rfl := hm6 n rfl; have hE7 := hE5.next hb6; obtain ⟨hc5, hf5⟩ := blk_at hE7.hd 7 rfl))
              have hk6 := ((HG2.out.kept (grown_of_below hb5 none) (by simp) (by simp)).kept (grown_of_below hb6 none) (by simp) (by simp)).kept (grown_set y6 w.heap.size 7 (.int .i64 (n : Int))) (by simp; omega) (by simp; omega)
              exact ⟨⟨_, _, ⟨hk6⟩, ⟨by rw [hd2_size]; exact hE7.put 7 (.int .i64 (n : Int)) (by unfold newNum; rw [if_neg hv0, HNUM.out]; rfl)⟩, ⟨ok2_size hok2.out (by unfold numOk; rw [HNUM.out]; simp)⟩⟩, by rw [hk6.left_eq, ← HG2.out.left_eq]; exact hm2.out⟩
            | none =>
              have hnS : wholeS vs.data.toList = none := hnum
              rw [hnS] at cN
              simp only [Option.isSome_none] at cN
              have hno : numOk false vs = false := by unfold numOk; rw [hnum, hq]; rfl
              have HNO : Aside0 (rv = applyR none) := ⟨by rw [← HRV.out, hvs]; unfold applyS; rw [hno]; simp⟩
              clear hnum hnS hno
              go_wp2_with (first
                | (go_at_call 13; refine (c4 _ _ hE6.out).mono ?_; rintro e y5 ⟨rfl, hE5, hb5⟩)
                | (go_at_call 18; refine (cN _ hE5.below).mono ?_; rintro e y6 ⟨m, rfl, hm6, hb6⟩; have hE7 := hE5.next hb6; clear hm6; obtain ⟨hr0, hrf0⟩ := blk_at hE7.res 0 rfl; obtain ⟨hr1, hrf1⟩ := blk_at hE7.res 1 rfl; obtain ⟨hr2, hrf2⟩ := blk_at hE7.res 2 rfl; obtain ⟨hr3, hrf3⟩ := blk_at hE7.res 3 rfl; obtain ⟨hr4, hrf4⟩ := blk_at hE7.res 4 rfl; obtain ⟨hr5, hrf5⟩ := blk_at hE7.res 5 rfl; obtain ⟨hr6, hrf6⟩ := blk_at hE7.res 6 rfl; obtain ⟨hr7, hrf7⟩ := blk_at hE7.res 7 rfl; obtain ⟨hr8, hrf8⟩ := blk_at hE7.res 8 rfl))
              obtain ⟨hw1, hw2⟩ := res_put Hd.zero hE7.below hE7.res
              exact bodyPost_ret (results_ct rfl _ _ _ _ Hd.zero.cells (0, 0) _ rfl hw1 Tryd.underlying25 rfl head_info) rfl ⟨by rw [HNO.out]; rfl, hw2⟩
    · intro x o kl y ps w4 cnt1 hkey hlk hv hat hrg1 hlt hg1 hs1 hen
      obtain ⟨x', ex, rfl⟩ := key_inv hkey
      cases ex
      have hy : y = at_ o := by rw [ptrE_mk] at hv; cases hv; rfl
      subst hy
      have hE4 := Aside0.mk (hE.out.grown hg1 (fun k hk => by cases hk; omega))
      have HG1 := Aside0.mk hrg1
      have hm : Aside0 (w4.rangeLeft (w.heap.size + 1 + 1) w2.heap.size < wr.rangeLeft (w.heap.size + 1 + 1) w2.heap.size) := ⟨by rw [hrg1.left_eq, hrg.out.left_eq]; exact hlt⟩
      have hne1 : w.heap.size + 1 + 1 ≠ w.heap.size := by omega
      have hne2 : w2.heap.size ≠ w.heap.size := by omega
      rcases D1_at (s := x) (o := o) hat with ⟨rfl, rfl⟩ | ⟨rfl, rfl⟩
      · clear hrg hE hrg1 hlt hg1 hs1 hv hat hkey
        have HLK : Aside0 (left (lk bPath) = true) := ⟨hlk⟩
        clear hlk
        by_cases hv0 : vp.toList = []
        · have hq : (vp.toList == []) = true := by rw [hv0]; rfl
          go_wp2_with (go_at_call 13; refine (cP _ _ hE4.out).mono ?_; rintro e w5 ⟨rfl, hE5, hb5⟩)
          have hk5 := HG1.out.kept (grown_of_below hb5 none) (by simp) (by simp)
          exact ⟨⟨_, _, ⟨hk5⟩, ⟨by rw [hd1_path_same HLK.out hv0]; exact hE5⟩⟩, by rw [hk5.left_eq, ← HG1.out.left_eq]; exact hm.out⟩
        · have hq : (vp.toList == []) = false := by simpa using hv0
          go_wp2_with (go_at_call 13; refine (cP _ _ hE4.out).mono ?_; rintro e w5 ⟨rfl, hE5, hb5⟩; obtain ⟨hc5, hf5⟩ := blk_at hE5.hd 0 rfl)
          have hk6 := (HG1.out.kept (grown_of_below hb5 none) (by simp) (by simp)).kept (grown_set w5 w.heap.size 0 (.string vp)) (by simp; omega) (by simp; omega)
          exact ⟨⟨_, _, ⟨hk6⟩, ⟨by rw [hd1_path]; exact hE5.put 0 (.string vp) (by unfold newStr; rw [if_neg hv0]; rfl)⟩⟩, by rw [hk6.left_eq, ← HG1.out.left_eq]; exact hm.out⟩
      · clear hrg hE hrg1 hlt hg1 hs1 hv hat hkey
        have HLK : Aside0 (left (lk bLink) = true) := ⟨hlk⟩
        clear hlk
        by_cases hv0 : vl.toList = []
        · have hq : (vl.toList == []) = true := by rw [hv0]; rfl
          go_wp2_with (go_at_call 13; refine (cL _ _ hE4.out).mono ?_; rintro e w5 ⟨rfl, hE5, hb5⟩)
          have hk5 := HG1.out.kept (grown_of_below hb5 none) (by simp) (by simp)
          exact ⟨⟨_, _, ⟨hk5⟩, ⟨by rw [hd1_link_same HLK.out hv0]; exact hE5⟩⟩, by rw [hk5.left_eq, ← HG1.out.left_eq]; exact hm.out⟩
        · have hq : (vl.toList == []) = false := by simpa using hv0
          go_wp2_with (go_at_call 13; refine (cL _ _ hE4.out).mono ?_; rintro e w5 ⟨rfl, hE5, hb5⟩; obtain ⟨hc5, hf5⟩ := blk_at hE5.hd 1 rfl)
          have hk6 := (HG1.out.kept (grown_of_below hb5 none) (by simp) (by simp)).kept (grown_set w5 w.heap.size 1 (.string vl)) (by simp; omega) (by simp; omega)
          exact ⟨⟨_, _, ⟨hk6⟩, ⟨by rw [hd1_link]; exact hE5.put 1 (.string vl) (by unfold newStr; rw [if_neg hv0]; rfl)⟩⟩, by rw [hk6.left_eq, ← HG1.out.left_eq]; exact hm.out⟩
end Go.Proofs.YtehfblmconkdhaaDoor.Q
