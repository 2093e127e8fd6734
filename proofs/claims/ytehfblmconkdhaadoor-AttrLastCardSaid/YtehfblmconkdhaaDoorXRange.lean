/- A range over a function whose iterator may keep what is left in a variable of its own: the statement's rule, out of the two rules for a round and for the statement. -/
import Derived.Test.YtehfblmconkdhaaDoorProg
import Derived.RangeFuncNested
import Derived.RangeFuncMany
import Derived.RangeFuncLeaves
import Derived.Below
namespace Go.Proofs.YtehfblmconkdhaaDoor
open Go.RowKit
/-- What the statement's own steps, and the iterator's, may turn: new blocks; from N on what is no cells; block c. -/
structure Turn (c : Option Nat) (N : Nat) (A B : World) : Prop where
  os : B.os = A.os
  tape : B.tape = A.tape
  output : B.output = A.output
  size : A.heap.size ≤ B.heap.size
  keep : ∀ k o, A.heap[k]? = some o → some k ≠ c → (k < N ∨ o.isCells = true) → B.heap[k]? = some o
theorem Turn.refl (c : Option Nat) (N : Nat) (A : World) : Turn c N A A := ⟨rfl, rfl, rfl, Nat.le_refl _, fun _ _ h _ _ => h⟩
theorem Turn.trans {c : Option Nat} {N : Nat} {A B C : World} (h : Turn c N A B) (k : Turn c N B C) : Turn c N A C :=
  ⟨k.os.trans h.os, k.tape.trans h.tape, k.output.trans h.output, Nat.le_trans h.size k.size, fun i o hi hc ho => k.keep i o (h.keep i o hi hc ho) hc ho⟩
theorem Turn.alloc (c : Option Nat) (N : Nat) (A : World) (o : Obj) : Turn c N A (A.alloc o) :=
  ⟨rfl, rfl, rfl, by simp, fun k o' hk _ _ => (Below.heap_alloc A o k (Array.getElem?_eq_some_iff.1 hk).1).trans hk⟩
theorem Turn.put {c : Option Nat} {N : Nat} {A : World} {l : Nat} {o : Obj} (o' : Obj) (hl : A.heap[l]? = some o) (hN : N ≤ l) (ho : o.isCells = false) : Turn c N A (A.putObj l o') :=
  ⟨rfl, rfl, rfl, by simp [World.putObj], fun k o2 hk _ hk2 => by
    have : k ≠ l := by
      rintro rfl
      rw [hl] at hk
      cases hk
      rcases hk2 with h | h
      · omega
      · rw [ho] at h; cases h
    exact (World.putObj_heap_other this).trans hk⟩
theorem Turn.set (c N : Nat) (A : World) (v : Value) : Turn (some c) N A (A.setCell ⟨c, 0, none⟩ v) :=
  ⟨rfl, rfl, rfl, by simp [World.setCell], fun k o hk hc _ => (Below.heap_setCell A ⟨c, 0, none⟩ v k (fun e => hc (congrArg some e))).trans hk⟩
/-- How a round's body may be left: it goes on, or it returns. ks: blocks that the iterator reads behind a round. -/
def strPost {α : Type} (ks : List Nat) (I X : List α → World → Prop) (xs : List α) (W : World) : Exit → Act → World → Prop
  | .normal, _, W' => KeepsOthers W W' ∧ (∀ k, k ∈ ks → W'.heap[k]? = W.heap[k]?) ∧ I xs W'
  | .ret, _, W' => KeepsOthers W W' ∧ X xs W'
  | _, _, _ => False
variable {F : Fence} {n : Nat} {P : Program} {α : Type}
theorem range_func (encA : α → Array Value) {g : Operand} {ps : Array Tmp} {assign body : Code} {Q : Exit → Act → World → Prop} {a : Act} {w : World}
    (hro : F.round = none) (h1 : 1 ≤ n) {gf : Nat} {lb : Array Value} (hg : a.eval g = .func (.func gf) #[] lb) (hFg : F.fn gf) (eg : ∀ args w, (callFunc gf args).run P w = .ok (.enter gf args) w)
    (hps : ∀ x, (encA x).size = ps.size) (c : Option Nat) (hc : ∀ c', c = some c' → c' < w.heap.size) (ks : List Nat) (hks : ∀ k, k ∈ ks → k < w.heap.size) (xs : List α)
    (I X : List α → World → Prop) (hI : ∀ s A B, I s A → Turn c w.heap.size A B → I s B) (hX : ∀ s A B, X s A → Turn c w.heap.size A B → X s B)
    (hiter : ∀ (l : Nat) (W : World) (J Jx : List α → World → Prop), Turn c w.heap.size w W → (∀ pre W, J pre W → I pre W) → (∀ s A v c', c = some c' → J s A → J s (A.setCell ⟨c', 0, none⟩ v)) → (∀ k, k ∈ ks → W.heap[k]? = w.heap[k]?) → (∀ c', c = some c' → W.heap[c']? = w.heap[c']?) →
      (∀ pre x rest W1, pre ++ x :: rest = xs → J pre W1 → YieldAt F (n - 1 - 1) P l (encA x) W1 fun e W' => (e = .returned (.bool true) ∧ J (pre ++ [x]) W' ∧ (∀ k, k ∈ ks → W'.heap[k]? = W1.heap[k]?)) ∨ (e = .returned (.bool false) ∧ Jx (pre ++ [x]) W')) →
      J [] W → CallsIn F (n - 1) P gf (#[.func (.yield l) #[] #[]] ++ lb) W fun e W' => (∃ v, e = .returned v) ∧ (J xs W' ∨ ∃ pre, Jx pre W'))
    (h0 : I [] w) (M : List α → α → Act → World → Prop) (hM : ∀ pre x a2 A B, M pre x a2 A → Turn c w.heap.size A B → M pre x a2 B)
    (hassign : ∀ (l : Nat) (pre : List α) (x : α) (rest : List α) (W : World), pre ++ x :: rest = xs → I pre W →
      assign.wpIn (F.inRound l) (n - 1 - 1) P (Exit.then (fun a2 W2 => KeepsOthers W W2 ∧ (∀ k, k ∈ ks → W2.heap[k]? = W.heap[k]?) ∧ M pre x a2 W2) (fun _ _ _ => False)) { tmps := (ps.zip (encA x)).foldl (fun t (p, v) => t.setIfInBounds p v) a.tmps, defers := [] } W)
    (hbody : ∀ (l : Nat) (pre : List α) (x : α) (rest : List α) (a2 : Act) (W : World), pre ++ x :: rest = xs → M pre x a2 W → body.wpIn (F.inRound l) (n - 1 - 1) P (strPost ks I X (pre ++ [x]) W) a2 W)
    (hdone : ∀ (D : Nat) (W : World), I xs W → W.heap[D]? = some (.deferred (some [])) → w.heap.size ≤ D → Q .normal { a with defers := { target := .collected D, args := #[] } :: a.defers } W)
    (hstop : ∀ (D : Nat) (pre : List α) (W : World), X pre W → W.heap[D]? = some (.deferred (some [])) → w.heap.size ≤ D → Code.ret.wpIn F n P Q { a with defers := { target := .collected D, args := #[] } :: a.defers } W) :
    (Code.rangeFunc g ps assign body).wpIn F n P Q a w := by
  refine wpIn_rangeFunc ?_
  intro fn hfn
  rw [hro]
  obtain ⟨rec, hrec⟩ : ∃ rec : LoopState → Option Code → Loop, rec = fun st pe => { state := st, pending := pe, fn, tmps := a.tmps, params := ps, assign, body, defers := w.heap.size } := ⟨_, rfl⟩
  obtain ⟨W1, hW1⟩ : ∃ W1, (w.alloc (.deferred (some []))).alloc (.loop (rec .ready none)) = W1 := ⟨_, rfl⟩
  have hL1 : W1.heap[w.heap.size + 1]? = some (.loop (rec .ready none)) := by
    rw [← hW1]; have := World.alloc_heap_new (w.alloc (.deferred (some []))) (.loop (rec .ready none)); rwa [World.size_alloc] at this
  have hK1 : W1.heap[w.heap.size]? = some (.deferred (some [])) := by
    rw [← hW1]; exact (Below.heap_alloc _ _ _ (by simp)).trans (World.alloc_heap_new w _)
  have hT1 : Turn c w.heap.size w W1 := by rw [← hW1]; exact (Turn.alloc _ _ _ _).trans (Turn.alloc _ _ _ _)
  have hS0 : ∀ k, k < w.heap.size → W1.heap[k]? = w.heap[k]? := by
    intro k hlt
    rw [← hW1, Below.heap_alloc _ _ _ (by simp; omega), Below.heap_alloc _ _ _ hlt]
  refine ⟨w.heap.size + 1, [{ target := .collected w.heap.size, args := #[] }], W1, { target := .fn (.func gf) lb, args := #[.func (.yield (w.heap.size + 1)) #[] #[]] }, W1, gf,
    #[.func (.yield (w.heap.size + 1)) #[] #[]] ++ lb, W1, ?_, ?_, ?_, ?_, fun _ => h1, ?_⟩
  · rw [← hW1, hrec]; exact run_enterLoop_outer _ _ _ _ _
  · simp only [resolve, hg]
    simp [go_sem]
  · intro f' hf'; simp [Target.leads] at hf'; subst hf'; exact hFg
  · simp [invoke, go_sem, eg]
  · refine (hiter (w.heap.size + 1) W1
      (fun pre W => I pre W ∧ W.heap[w.heap.size + 1]? = some (.loop (rec .ready none)) ∧ W.heap[w.heap.size]? = some (.deferred (some [])))
      (fun pre W => X pre W ∧ W.heap[w.heap.size + 1]? = some (.loop (rec .done (some .ret))) ∧ W.heap[w.heap.size]? = some (.deferred (some [])))
      hT1 (fun _ _ h => h.1) (fun s A v c' hc' hs => by
        have hlt := hc c' hc'
        subst hc'
        exact ⟨hI s _ _ hs.1 (Turn.set _ _ _ _), (Below.heap_setCell A ⟨c', 0, none⟩ v _ (by show w.heap.size + 1 ≠ c'; omega)).trans hs.2.1, (Below.heap_setCell A ⟨c', 0, none⟩ v _ (by show w.heap.size ≠ c'; omega)).trans hs.2.2⟩)
      (fun k hk => hS0 k (hks k hk)) (fun c' hc' => hS0 c' (hc c' hc')) ?_ ⟨hI _ _ _ h0 hT1, hL1, hK1⟩).mono ?_
    · rintro pre x rest W hpx ⟨hi, hl, hk⟩
      have hlt : w.heap.size + 1 < W.heap.size := (Array.getElem?_eq_some_iff.1 hl).1
      have hy := run_yield (P := P) (args := (encA x)) hl (by rw [hrec]; exact hps x)
      rw [hrec] at hy
      refine ⟨fn, _, assign, body, hy, roundIn_of_wpIn hfn (wpIn_mono (hassign _ pre x rest W hpx hi) ?_)⟩
      intro e0 a2 V he0
      cases e0 with
      | ret => exact he0.elim
      | exit id => exact he0.elim
      | goto t => exact he0.elim
      | panic ch => exact he0.elim
      | outgrown => exact he0.elim
      | normal =>
      obtain ⟨hkV, hksV, hmV⟩ := he0
      have hlV := hkV.same _ _ hl rfl
      have hkkV := hkV.same _ _ hk rfl
      have hltV : w.heap.size + 1 < V.heap.size := (Array.getElem?_eq_some_iff.1 hlV).1
      refine ⟨_, run_beginRound hlV (by rw [hrec]), ?_⟩
      obtain ⟨Wb, hWb⟩ : ∃ Wb, V.putObj (w.heap.size + 1) (.loop { rec .ready none with state := .busy }) = Wb := ⟨_, rfl⟩
      have hl2 : Wb.heap[w.heap.size + 1]? = some (.loop { rec .ready none with state := .busy }) := by rw [← hWb]; exact World.putObj_heap_same hltV
      have hk2 : Wb.heap[w.heap.size]? = some (.deferred (some [])) := by rw [← hWb]; exact (World.putObj_heap_other (by omega)).trans hkkV
      have hm2 : M pre x a2 Wb := by rw [← hWb]; exact hM _ _ _ _ _ hmV (Turn.put _ hlV (by omega) rfl)
      have hs2 : ∀ k, k ∈ ks → Wb.heap[k]? = W.heap[k]? := fun k hk' => by rw [← hWb]; exact (World.putObj_heap_other (by have := hks k hk'; omega)).trans (hksV k hk')
      rw [hWb]
      refine wpIn_mono (hbody _ pre x rest a2 Wb hpx hm2) ?_
      have fin : ∀ (jump : Option Code) (W3 : World), KeepsOthers Wb W3 →
          (Instr.endRound (w.heap.size + 1) jump).run P W3 = .ok (.bool jump.isNone) (W3.putObj (w.heap.size + 1) (.loop (rec (if jump.isNone then .ready else .done) jump))) ∧
          W3.heap[w.heap.size + 1]? = some (.loop { rec .ready none with state := .busy }) ∧
          (W3.putObj (w.heap.size + 1) (.loop (rec (if jump.isNone then .ready else .done) jump))).heap[w.heap.size + 1]? = some (.loop (rec (if jump.isNone then .ready else .done) jump)) ∧
          (W3.putObj (w.heap.size + 1) (.loop (rec (if jump.isNone then .ready else .done) jump))).heap[w.heap.size]? = some (.deferred (some [])) := fun jump W3 hk3 => by
        have hl3 := hk3.same _ _ hl2 rfl
        have hr := run_endRound (P := P) jump hl3
        rw [hrec] at hr ⊢
        exact ⟨hr, by rw [hrec] at hl3; exact hl3, World.putObj_heap_same (Array.getElem?_eq_some_iff.1 hl3).1, (World.putObj_heap_other (by omega)).trans (hk3.same _ _ hk2 rfl)⟩
      rintro e a3 W3 hp
      cases e with
      | normal =>
        obtain ⟨hk3, hks3, hi3⟩ := hp
        obtain ⟨hr, hl3, hl4, hk4⟩ := fin none W3 hk3
        exact ⟨_, _, hr, .inl ⟨rfl, ⟨hI _ _ _ hi3 (Turn.put _ hl3 (by omega) rfl), hl4, hk4⟩, fun k hk' => ((World.putObj_heap_other (by have := hks k hk'; omega)).trans (hks3 k hk')).trans (hs2 k hk')⟩⟩
      | ret =>
        obtain ⟨hk3, hi3⟩ := hp
        obtain ⟨hr, hl3, hl4, hk4⟩ := fin (some .ret) W3 hk3
        exact ⟨_, _, hr, .inr ⟨rfl, hX _ _ _ hi3 (Turn.put _ hl3 (by omega) rfl), hl4, hk4⟩⟩
      | exit id => exact hp.elim
      | goto t => exact hp.elim
      | panic ch => exact hp.elim
      | outgrown => exact hp.elim
    · rintro e W2 ⟨⟨v, rfl⟩, (⟨hi, hl, hk⟩ | ⟨pre, hi, hl, hk⟩)⟩
      · exact ⟨none, _, by have := run_endLoop (P := P) hl (by rw [hrec]; simp); rw [hrec] at this; exact this, hdone _ _ (hI _ _ _ hi (Turn.put _ hl (by omega) rfl)) ((World.putObj_heap_other (by omega)).trans hk) (Nat.le_refl _)⟩
      · exact ⟨some .ret, _, by have := run_endLoop (P := P) hl (by rw [hrec]; simp); rw [hrec] at this; exact this, hstop _ pre _ (hX _ _ _ hi (Turn.put _ hl (by omega) rfl)) ((World.putObj_heap_other (by omega)).trans hk) (Nat.le_refl _)⟩
end Go.Proofs.YtehfblmconkdhaaDoor
