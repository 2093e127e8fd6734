/- Words on a state that a call has made: it is read, it stays while others turn. -/
import Derived.Test.YtehfblmconkdhaaDoorXGlobal
namespace Go.Proofs.YtehfblmconkdhaaDoor.Q
open Go.RowKit Go.Proofs.YtehfblmconkdhaaDoorW.PrintWords Go.Proofs.YtehfblmconkdhaaDoorW.PrintLast Go.Proofs.YtehfblmconkdhaaDoorW.PrintMore
theorem made_state (w : World) : StateOwn (w.alloc (.cells #[.slice none 0 0] 30)) w.heap.size w.heap.size (.slice none 0 0) [] :=
  ⟨World.alloc_heap_new w _, Kd.R_nil _ _ _ _ _⟩
theorem k42_flat {W : World} {base : Nat} {ok1 ok2 : Nat → Prop} {x : S42} {cs : List Value} (h : k42.M W base ok1 x cs) : k42.M W base ok2 x cs := by
  obtain rfl := k42_openM h
  exact k42_mkM _ _ _ _
theorem StateOwn.own {W : World} {base sb : Nat} {v : Value} {l : List S42} (h : StateOwn W base sb v l) : Kd.R k42 42 W base (fun k => v.ownBlock = some k) v l := Kd.R_flat k42_flat h.2 (fun k hk _ => hk)
/-- It stays where neither its variable nor its row turns. -/
theorem StateOwn.moved {W W2 : World} {base sb : Nat} {v : Value} {l : List S42} {S : Nat → Prop} (h : StateOwn W base sb v l) (m : Moved W W2 S) (h1 : ¬ S sb) (h2 : ∀ k, v.ownBlock = some k → ¬ S k) : StateOwn W2 base sb v l where
  left := (m.block sb (Array.getElem?_eq_some_iff.1 h.1).1 h1).trans h.1
  right := Kd.R_mono (Kd.R_step h.own (fun k hk hlt => m.block k hlt (h2 k hk))) (fun _ _ => trivial)
theorem moved_below {W W2 : World} (h : Below W.heap.size W W2) : Moved W W2 (fun _ => False) := ⟨h.os, h.tape, h.output, h.size, fun i hi _ => h.block i hi⟩
theorem StateOwn.below {W W2 : World} {base sb : Nat} {v : Value} {l : List S42} (h : StateOwn W base sb v l) (hb : Below W.heap.size W W2) : StateOwn W2 base sb v l := h.moved (moved_below hb) (fun e => e) (fun _ _ e => e)
theorem StateOwn.reads {W : World} {base sb : Nat} {v : Value} {l : List S42} (h : StateOwn W base sb v l) : StateIn W (some ⟨sb, 0, none⟩) l := by
  obtain ⟨A, c, rfl, hl, hc⟩ := Kd.R_reads h.2
  exact .inr ⟨_, A, c, rfl, by simp [World.cell?, h.1], hc⟩
theorem stateIn_none (w : World) : StateIn w none [] := .inl ⟨rfl, rfl⟩
/-- Its own row is a block from base on. -/
theorem StateOwn.base {W : World} {base sb : Nat} {v : Value} {l : List S42} (h : StateOwn W base sb v l) {k : Nat} (hk : v.ownBlock = some k) : base ≤ k ∧ k < W.heap.size := by
  have := (Kd.R_bound h.2).1 k hk
  exact ⟨this.2.1, this.2.2.1⟩
theorem below_moved {w W W2 : World} {S : Nat → Prop} (h : Below w.heap.size w W) (m : Moved W W2 S) (hS : ∀ i, S i → w.heap.size ≤ i) : Below w.heap.size w W2 :=
  ⟨m.os.trans h.os, m.tape.trans h.tape, m.output.trans h.output, Nat.le_trans h.size m.size, fun i hi => (m.block i (Nat.lt_of_lt_of_le hi h.size) (fun e => Nat.lt_irrefl _ (Nat.lt_of_lt_of_le hi (hS i e)))).trans (h.block i hi)⟩
end Go.Proofs.YtehfblmconkdhaaDoor.Q
