/- What an argument's data read as, kind by kind: from the row's reading (DataW.trod, within the row's weights) to the kinds' own reading (Kd.K), with the bounds that come with it. -/
import Derived.Test.YtehfblmconkdhaaDoorWWords
import Derived.ProofKit
import Derived.OpenShut
import Derived.SizedLaws
import Derived.DataReads
import Derived.Lib.SmallJoins
namespace Go.Proofs.YtehfblmconkdhaaDoor.Open
open Go.RowKit Go.Proofs.YtehfblmconkdhaaDoorW.PrintWords
/-- Cells of type t that are read as data are read by the kind d, and are ok. -/
structure Opens {α : Type} (P : Program) (d : Kd α) (t : TypeId) (ok : α → Prop) : Prop where
  out : ∀ {H : Type} (enc : TypeId × Value → H) (w : World) (fuel : Nat) (cs : List Value) (x : DataW H × List MemPlace), DataW.trod enc P w 0 (fun _ => true) true fuel t cs = some x → (∀ n ∈ x.1.weights P t, n ≤ reachBytes) → ∃ a : α, d.K w a cs ∧ ok a
section
variable {P : Program}
theorem opens_int {t : TypeId} {k : IntKind} (ht : P.underlying t = some (.int k)) : Opens P (Kd.int k) t (fun n => (Lit.int k n).wf = true) := ⟨fun enc w fuel cs x h _ => by
  obtain ⟨n, rfl, _, hw⟩ := DataW.trod_int ht h
  exact ⟨n, rfl, hw⟩⟩
theorem opens_bool {t : TypeId} (ht : P.underlying t = some .bool) : Opens P Kd.bool t (fun _ => True) := ⟨fun enc w fuel cs x h _ => by
  obtain ⟨n, rfl, _⟩ := DataW.trod_bool ht h
  exact ⟨n, rfl, trivial⟩⟩
theorem opens_string {t : TypeId} (ht : P.underlying t = some .string) : Opens P Kd.string t (fun s => s.size ≤ reachBytes) := ⟨fun enc w fuel cs x h hz => by
  obtain ⟨s, rfl, rfl, _⟩ := DataW.trod_string ht h
  refine ⟨s, rfl, ?_⟩
  have := hz s.data.toList.length (by simp [DataW.weights])
  simpa using this⟩
theorem mapM_get {α β : Type} {f : α → Option β} : ∀ {l : List α} {ys : List β}, l.mapM f = some ys → ys.length = l.length ∧ ∀ (i : Nat) (a : α) (y : β), l[i]? = some a → ys[i]? = some y → f a = some y
  | [], ys, h => by
    simp at h
    subst h
    exact ⟨rfl, fun i a y ha => by simp at ha⟩
  | b :: l, ys, h => by
    rw [List.mapM_cons] at h
    cases hb : f b with
    | none => simp [hb] at h
    | some c =>
      cases hl : l.mapM f with
      | none => simp [hb, hl] at h
      | some zs =>
        simp [hb, hl] at h
        subst h
        obtain ⟨h1, h2⟩ := mapM_get hl
        refine ⟨by simp [h1], fun i a y ha hy => ?_⟩
        cases i with
        | zero =>
          simp at ha hy
          subst ha
          subst hy
          exact hb
        | succ i => exact h2 i a y (by simpa using ha) (by simpa using hy)
theorem weightsAll_mem {H : Type} {e : TypeId} : ∀ {l : List (DataW H)} {y : DataW H}, y ∈ l → ∀ n ∈ y.weights P e, n ∈ DataW.weightsAll P e l
  | z :: l, y, hy, n, hn => by
    simp only [DataW.weightsAll, List.mem_append]
    rcases List.mem_cons.1 hy with rfl | hy
    · exact .inl hn
    · exact .inr (weightsAll_mem hy n hn)
  | [], _, hy, _, _ => by cases hy
theorem choose_list {α β : Type} {R : β → α → Prop} : ∀ (l : List β), (∀ b ∈ l, ∃ a, R b a) → ∃ as : List α, as.length = l.length ∧ ∀ (i : Nat) (b : β) (a : α), l[i]? = some b → as[i]? = some a → R b a
  | [], _ => ⟨[], rfl, fun i b a h => by simp at h⟩
  | b :: l, h => by
    obtain ⟨a, ha⟩ := h b List.mem_cons_self
    obtain ⟨as, h1, h2⟩ := choose_list l (fun c hc => h c (List.mem_cons_of_mem _ hc))
    refine ⟨a :: as, by simp [h1], fun i b' a' hb ha' => ?_⟩
    cases i with
    | zero =>
      simp at hb ha'
      subst hb
      subst ha'
      exact ha
    | succ i => exact h2 i b' a' (by simpa using hb) (by simpa using ha')
theorem add_add (a : Addr) (m n : Nat) : (a.add m).add n = a.add (m + n) := by
  unfold Addr.add
  by_cases hm : m = 0
  · subst hm
    simp
  · by_cases hn : n = 0
    · subst hn
      simp
    · rw [if_neg hm, if_neg hn, if_neg (by omega)]
      simp [Nat.add_assoc]
theorem cells?_get {w : World} {a : Addr} {n : Nat} {cs : List Value} (h : w.cells? 0 a n = some cs) : cs.length = n ∧ ∀ i u, cs[i]? = some u → w.cell? (a.add i) = some u := by
  unfold World.cells? at h
  rw [if_pos (Nat.zero_le _)] at h
  obtain ⟨h1, h2⟩ := mapM_get h
  rw [List.length_range] at h1
  refine ⟨h1, fun i u hu => h2 i i u ?_ hu⟩
  have : i < cs.length := (List.getElem?_eq_some_iff.1 hu).1
  rw [List.getElem?_range (by omega)]
theorem opens_slice {α : Type} {d : Kd α} {t e : TypeId} {ok : α → Prop} {B : Nat} (ht : P.underlying t = some (.slice e)) (hc : P.cellsOf e = d.sz) (hB : P.bytesOf e = B) (he : Opens P d e ok) :
    Opens P (Kd.slice e d) t (fun l => l.length * B ≤ reachBytes ∧ ∀ x ∈ l, ok x) := ⟨fun enc w fuel cs x h hz => by
  subst hB
  cases fuel with
  | zero => simp [DataW.trod] at h
  | succ fuel =>
    unfold DataW.trod at h
    simp only [ht] at h
    split at h <;> rename_i hm <;> first | (cases h; done) | skip
    all_goals try (simp at hm; done)
    · cases h
      exact ⟨[], ⟨none, 0, rfl, Nat.le_refl _, rfl, Nat.zero_le _, fun h => absurd h (Nat.lt_irrefl 0)⟩, by simp, fun x hx => by cases hx⟩
    · rename_i e' a len cap
      obtain rfl : e' = e := by simpa using hm.symm
      split at h
      · rename_i hb
        obtain ⟨_, hlc, hcm⟩ := hb
        cases hE : (List.range len).mapM fun i => (w.cells? 0 (a.add (i * P.cellsOf e')) (P.cellsOf e')).bind (DataW.trod enc P w 0 (fun _ => true) true fuel e') with
        | none => simp [hE] at h
        | some elems =>
          simp only [hE, Option.bind_some] at h
          cases hR : (List.range (cap - len)).mapM fun j => (w.cells? 0 (a.add ((len + j) * P.cellsOf e')) (P.cellsOf e')).bind (DataW.trod enc P w 0 (fun _ => true) true fuel e') with
          | none => simp [hR] at h
          | some rest =>
            simp [hR] at h
            subst h
            obtain ⟨h1, h2⟩ := mapM_get hE
            rw [List.length_range] at h1
            have hw2 : ∀ y ∈ elems, ∀ n ∈ y.1.weights P e', n ≤ reachBytes := fun y hy n hn => hz n (by
              simp only [DataW.weights, ht, List.mem_cons, List.mem_append]
              exact .inr (.inl (weightsAll_mem (List.mem_map.2 ⟨y, hy, rfl⟩) n hn)))
            have hel : ∀ i y, elems[i]? = some y → ∃ cs, w.cells? 0 (a.add (i * P.cellsOf e')) (P.cellsOf e') = some cs ∧ DataW.trod enc P w 0 (fun _ => true) true fuel e' cs = some y := fun i y hy => by
              have hi : i < elems.length := (List.getElem?_eq_some_iff.1 hy).1
              have h3 := h2 i i y (by rw [List.getElem?_range (by omega)]) hy
              cases hcs : w.cells? 0 (a.add (i * P.cellsOf e')) (P.cellsOf e') with
              | none => simp [hcs] at h3
              | some cs =>
                simp only [hcs, Option.bind_some] at h3
                exact ⟨cs, rfl, h3⟩
            have hch : ∀ q ∈ elems.zipIdx, ∃ a' : α, (∃ cs, w.cells? 0 (a.add (q.2 * P.cellsOf e')) (P.cellsOf e') = some cs ∧ d.K w a' cs) ∧ ok a' := fun q hq => by
              have hq2 := List.mem_zipIdx_iff_getElem?.1 hq
              obtain ⟨cs, hcs, ht3⟩ := hel q.2 q.1 hq2
              obtain ⟨a', hk, hok⟩ := he.out enc w fuel cs q.1 ht3 (hw2 q.1 (List.mem_of_getElem? hq2))
              exact ⟨a', ⟨cs, hcs, hk⟩, hok⟩
            obtain ⟨as, ha1, ha2⟩ := choose_list _ hch
            rw [List.length_zipIdx, h1] at ha1
            have hat : ∀ j p, as[j]? = some p → (∃ cs, w.cells? 0 (a.add (j * P.cellsOf e')) (P.cellsOf e') = some cs ∧ d.K w p cs) ∧ ok p := fun j p hp => by
              have hj : j < as.length := (List.getElem?_eq_some_iff.1 hp).1
              have hz2 : elems.zipIdx[j]? = some (elems[j]'(by omega), j) := by simp [List.getElem?_zipIdx, List.getElem?_eq_getElem (show j < elems.length by omega)]
              exact ha2 j _ p hz2 hp
            refine ⟨as, ⟨some a, cap, by rw [ha1], by omega, rfl, by unfold maxLen at hcm; omega, fun _ => ⟨a, rfl, fun j p hp => ?_⟩⟩, ?_, fun x hx => ?_⟩
            · obtain ⟨⟨cs, hcs, hk⟩, _⟩ := hat j p hp
              obtain ⟨hl, hg⟩ := cells?_get hcs
              refine ⟨cs, by rw [hl, hc], hk, fun i u hu => ?_⟩
              have := hg i u hu
              rw [← hc, ← add_add]
              exact this
            · have h4 := hz ((elems.length + rest.length) * P.bytesOf e') (by simp [DataW.weights, ht])
              rw [ha1, ← h1]
              exact Nat.le_trans (Nat.mul_le_mul_right _ (Nat.le_add_right _ _)) h4
            · obtain ⟨j, hj⟩ := List.mem_iff_getElem?.1 hx
              exact (hat j x hj).2
      · cases h⟩
/-- A struct's fields from one on, which lie from cell o on. -/
structure OpensF {α : Type} (P : Program) (fs : List Field) (o : Nat) (d : Kd α) (ok : α → Prop) : Prop where
  out : ∀ {H : Type} (enc : TypeId × Value → H) (w : World) (fuel : Nat) (cs : List Value) (xs : List (DataW H × List MemPlace)), cs.length = o + d.sz →
    (fs.mapM fun f => DataW.trod enc P w 0 (fun _ => true) true fuel f.type ((cs.drop f.offset).take (P.cellsOf f.type))) = some xs → (∀ n ∈ DataW.weightsEach P (fs.map (·.type)) (xs.map (·.1)), n ≤ reachBytes) → ∃ a : α, d.K w a (cs.drop o) ∧ ok a
theorem opensF_one {α : Type} {d : Kd α} {f : Field} {t : TypeId} {o : Nat} {ok : α → Prop} (hf : f.type = t ∧ f.offset = o) (hc : P.cellsOf t = d.sz) (h : Opens P d t ok) : OpensF P [f] o d ok := ⟨fun enc w fuel cs xs hl hm hz => by
  obtain ⟨rfl, rfl⟩ := hf
  cases ht : DataW.trod enc P w 0 (fun _ => true) true fuel f.type ((cs.drop f.offset).take (P.cellsOf f.type)) with
  | none => simp [ht] at hm
  | some x =>
    simp [ht] at hm
    subst hm
    obtain ⟨a, hk, hok⟩ := h.out enc w fuel _ x ht (fun n hn => hz n (by simp [DataW.weightsEach, hn]))
    rw [List.take_of_length_le (by rw [List.length_drop, hl, hc]; omega)] at hk
    exact ⟨a, hk, hok⟩⟩
theorem opensF_cons {α β : Type} {d : Kd α} {d2 : Kd β} {f : Field} {fs : List Field} {t : TypeId} {o o2 : Nat} {ok : α → Prop} {ok2 : β → Prop} (hf : f.type = t ∧ f.offset = o) (hc : P.cellsOf t = d.sz) (ho : o2 = o + d.sz) (h : Opens P d t ok) (h2 : OpensF P fs o2 d2 ok2) :
    OpensF P (f :: fs) o (Kd.pair d d2) (fun p => ok p.1 ∧ ok2 p.2) := ⟨fun enc w fuel cs xs hl hm hz => by
  obtain ⟨rfl, rfl⟩ := hf
  subst ho
  have hl : cs.length = f.offset + (d.sz + d2.sz) := hl
  rw [List.mapM_cons] at hm
  cases ht : DataW.trod enc P w 0 (fun _ => true) true fuel f.type ((cs.drop f.offset).take (P.cellsOf f.type)) with
  | none => simp [ht] at hm
  | some x =>
    cases hr : (fs.mapM fun f => DataW.trod enc P w 0 (fun _ => true) true fuel f.type ((cs.drop f.offset).take (P.cellsOf f.type))) with
    | none => simp [ht, hr] at hm
    | some ys =>
      simp [ht, hr] at hm
      subst hm
      obtain ⟨a, hk, hok⟩ := h.out enc w fuel _ x ht (fun n hn => hz n (by simp [DataW.weightsEach, hn]))
      obtain ⟨b, hkb, hokb⟩ := h2.out enc w fuel cs ys (by omega) hr (fun n hn => hz n (by simp only [List.map_cons, DataW.weightsEach, List.mem_append]; exact .inr hn))
      refine ⟨(a, b), ⟨_, _, ?_, hk, hkb⟩, hok, hokb⟩
      rw [hc, ← List.drop_drop, List.take_append_drop]⟩
theorem opens_struct {α β : Type} {d : Kd α} {f : β → α} {t : TypeId} {fs : Array Field} {ok : α → Prop} (g : α → β) (hg : ∀ a, f (g a) = a) (ht : P.underlying t = some (.struct fs)) (hc : P.cellsOf t = d.sz) (h : OpensF P fs.toList 0 d ok) :
    Opens P (Kd.iso d f) t (fun b => ok (f b)) := ⟨fun enc w fuel cs x hx hz => by
  cases fuel with
  | zero => simp [DataW.trod] at hx
  | succ fuel =>
    unfold DataW.trod at hx
    simp only [ht] at hx
    split at hx
    · rename_i hl
      cases hm : (fs.toList.mapM fun f => DataW.trod enc P w 0 (fun _ => true) true fuel f.type ((cs.drop f.offset).take (P.cellsOf f.type))) with
      | none => simp [hm] at hx
      | some xs =>
        simp only [hm, Option.map_some, Option.some.injEq] at hx
        subst hx
        obtain ⟨a, hk, hok⟩ := h.out enc w fuel cs xs (by rw [hl, hc]; omega) hm (fun n hn => hz n (by simpa [DataW.weights, ht] using hn))
        refine ⟨g a, ?_, ?_⟩
        · show d.K w (f (g a)) cs
          rw [hg]
          exact hk
        · show ok (f (g a))
          rw [hg]
          exact hok
    · cases hx⟩
theorem opens_mono {α : Type} {d : Kd α} {t : TypeId} {ok ok' : α → Prop} (h : Opens P d t ok) (hi : ∀ a, ok a → ok' a) : Opens P d t ok' := ⟨fun enc w fuel cs x hx hz => by
  obtain ⟨a, hk, ha⟩ := h.out enc w fuel cs x hx hz
  exact ⟨a, hk, hi a ha⟩⟩
/-- An argument, opened. -/
theorem Opens.arg {H : Type} {enc : TypeId × Value → H} {α : Type} {d : Kd α} {t : TypeId} {ok : α → Prop} (h : Opens P d t ok) {w : World} {v : Value} {x : DataW H} {ps : List MemPlace} (hx : DataW.Trod enc P w 0 (fun _ => true) true t v x ps)
    {ts : List TypeId} {ds : List (DataW H)} {j : Nat} (hz : (DataW.weightsEach P ts ds).all (· ≤ reachBytes) = true) (ht : ts[j]? = some t) (hd : ds[j]? = some x) : ∃ a : α, d.K w a v.cells.toList ∧ ok a := by
  obtain ⟨fuel, hf⟩ := hx
  exact h.out enc w fuel _ _ hf (fun n hn => by
    have := List.all_eq_true.1 hz n (DataW.weights_mem_each ht hd n hn)
    simpa using this)
end
end Go.Proofs.YtehfblmconkdhaaDoor.Open
