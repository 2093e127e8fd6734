/- attr.State.Global: the state's row grows by the records. -/
import Derived.Test.YtehfblmconkdhaaDoorXValue
namespace Go.Proofs.YtehfblmconkdhaaDoor.Q
open Go.RowKit Go.Proofs.YtehfblmconkdhaaDoorW.PrintWords Go.Proofs.YtehfblmconkdhaaDoorW.PrintLast Go.Proofs.YtehfblmconkdhaaDoorW.PrintMore
set_option linter.unusedVariables false
set_option linter.unusedSimpArgs false
theorem global_nil (A : Option Addr) (m c : Nat) (w : World) : Calls Tryd.prog 10 #[.pointer none, .slice A m c] w fun e w' => e = .returned (.tuple #[]) ∧ w' = w := by
  go_enter Tryd.func10, Tryd.ntmps10
  go_wp2
  go_end0
  exact ⟨rfl, rfl⟩
/-- The state's variable holds an own row of these records. -/
def StateOwn (w : World) (base sb : Nat) (v : Value) (l : List S42) : Prop := w.heap[sb]? = some (.cells #[v] 30 (0, 0)) ∧ Kd.R k42 42 w base (fun _ => True) v l
/-- What a call may turn: new blocks, and those that are named. -/
structure Moved (w w2 : World) (S : Nat → Prop) : Prop where
  os : w2.os = w.os
  tape : w2.tape = w.tape
  output : w2.output = w.output
  size : w.heap.size ≤ w2.heap.size
  block : ∀ i, i < w.heap.size → ¬ S i → w2.heap[i]? = w.heap[i]?
set_option maxRecDepth 100000 in
set_option maxHeartbeats 1000000 in
theorem global_walk (base sb : Nat) (v : Value) (l : List S42) (A : Option Addr) (c : Nat) (xs : List S42) (w : World) (hS : StateOwn w base sb v l) (hr : Kd.C k42 w A xs.length xs) (hbase : base ≤ w.heap.size) (hn : l.length + xs.length ≤ 1000000) :
    Calls Tryd.prog 10 #[.pointer (some ⟨sb, 0, none⟩), .slice A xs.length c] w fun e w' => e = .returned (.tuple #[]) ∧ ∃ v', StateOwn w' base sb v' (l ++ xs) ∧ (v'.ownBlock = v.ownBlock ∨ ∃ b, v'.ownBlock = some b ∧ w.heap.size ≤ b) ∧ Moved w w' (fun i => i = sb ∨ some i = v.ownBlock) := by
  obtain ⟨hb, ho⟩ := hS
  have hc : w.cell? ⟨sb, 0, none⟩ = some v ∧ w.frozen? ⟨sb, 0, none⟩ = false := ⟨by simp [World.cell?, hb], by simp [World.frozen?, hb]⟩
  obtain ⟨hc0, hf0⟩ := hc
  have hne : some sb ≠ v.ownBlock := Kd.R_ne ho hb (by decide)
  have hE : ∀ q, q ∈ (42 : Nat) :: k42.E → q ≠ (30 : Nat) := by decide
  obtain ⟨Av, cv, rfl⟩ := Kd.R_slice ho
  have HB := Aside0.mk hb
  have HO := Aside0.mk ho
  have HR := Aside0.mk hr
  have HN := Aside0.mk hn
  have HBASE := Aside0.mk hbase
  have HNE := Aside0.mk hne
  clear hb ho hr hn hbase hne
  go_enter Tryd.func10, Tryd.ntmps10
  go_wp2_with (at_builtin; go_loud (refine Kd.R_append_rows k42 (w0 := w) base rfl (.tmp 10) (.tmp 11) 27 42 (.agg #[.string ⟨#[]⟩, .string ⟨#[]⟩]) 32 rfl Tryd.underlying27 info42 rfl (by decide) (by decide) (.slice Av l.length cv) l xs A xs.length c (fun _ => True) (fun _ => False) rfl rfl HO.out HR.out (fun x cs hk => (k42_open hk).symm ▸ k42_mkM _ _ _ _) (fun k hk => hk.elim) (fun _ _ => trivial) (Below.refl _ _) HBASE.out (by have := HN.out; omega) ?_); go_loud (intro v1 w1 hR1 hB1 hG1 hat; obtain ⟨A1, c1, rfl⟩ := Kd.R_slice hR1; rw [List.length_append] at hR1 hat; have hb1 := (hG1.block _ (Array.getElem?_eq_some_iff.1 HB.out).1 HNE.out).trans HB.out; have hc1 : w1.cell? ⟨sb, 0, none⟩ = some (.slice Av l.length cv) := (by simp [World.cell?, hb1]); have hf1 : w1.frozen? ⟨sb, 0, none⟩ = false := (by simp [World.frozen?, hb1]); have HR1 := Aside0.mk hR1; have HG1 := Aside0.mk hG1; have HAT := Aside0.mk hat; have HB1 := Aside0.mk hb1; clear hR1 hB1 hG1 hat hb1))
  go_end0
  refine ⟨rfl, .slice A1 (l.length + xs.length) c1, ⟨blk_put HB1.out 0 _ rfl, Kd.R_set HR1.out HB1.out hE 0 _⟩, HAT.out, ?_⟩
  have hg := HG1.out
  exact ⟨hg.os, hg.tape, hg.output, by simpa [World.setCell] using hg.size, fun i hi hS => (Below.heap_setCell w1 ⟨sb, 0, none⟩ _ i (fun e => hS (.inl e))).trans (hg.block i hi (fun e => hS (.inr e)))⟩
end Go.Proofs.YtehfblmconkdhaaDoor.Q
