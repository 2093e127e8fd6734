/- Records appended to a row of one's own, as the laws of layer 7 do; a header's variable, read. -/
import Derived.Test.YtehfblmconkdhaaDoorXCall7
namespace Go.Proofs.YtehfblmconkdhaaDoor.Q
open Go.RowKit Go.Proofs.YtehfblmconkdhaaDoorW.PrintWords Go.Proofs.YtehfblmconkdhaaDoorW.PrintLast Go.Proofs.YtehfblmconkdhaaDoorW.PrintMore
set_option linter.unusedVariables false
abbrev OwnRecs (W : World) (base : Nat) (v : Value) (l : List S42) : Prop := Kd.R k42 42 W base (fun _ => True) v l
theorem recs_len : ∀ l : List S42, (l.flatMap fun x => [Value.string x.f0, Value.string x.f1]).length = l.length * 2
  | [] => rfl
  | x :: l => by
    rw [List.flatMap_cons, List.length_append, recs_len l, List.length_cons]
    simp
    omega
/-- A literal of records: an own row. -/
theorem recs_own (W : World) (base : Nat) (l : List S42) (hb : base ≤ W.heap.size) (hl : l.length ≤ 1000000) : OwnRecs (W.alloc (.cells (l.flatMap fun x => [Value.string x.f0, Value.string x.f1]).toArray 42)) base (.slice (some ⟨W.heap.size, 0, none⟩) l.length l.length) l := by
  refine ⟨fun _ _ => trivial, (l.flatMap fun x => [Value.string x.f0, Value.string x.f1]), ?_, ?_, ?_⟩
  · have := World.ownsRow_lit (base := base) (e := 42) (size := 2) W (l.flatMap fun x => [Value.string x.f0, Value.string x.f1]).toArray l.length hb (by unfold maxLen; omega) (by rw [List.size_toArray, recs_len])
    exact this
  · show (l.flatMap fun x => [Value.string x.f0, Value.string x.f1]).length = l.length * 2
    exact recs_len l
  · intro j p hp
    obtain ⟨h0, h1⟩ := recs_get l j p hp
    have hlen : (l.flatMap fun x => [Value.string x.f0, Value.string x.f1]).length = l.length * 2 := recs_len l
    have hj : j < l.length := (List.getElem?_eq_some_iff.1 hp).1
    have e : (((l.flatMap fun x => [Value.string x.f0, Value.string x.f1]).drop (j * k42.sz)).take k42.sz) = [.string p.f0, .string p.f1] := by
      show (((l.flatMap fun x => [Value.string x.f0, Value.string x.f1]).drop (j * 2)).take 2) = _
      obtain ⟨hx0, e0⟩ := List.getElem?_eq_some_iff.1 h0
      obtain ⟨hx1, e1⟩ := List.getElem?_eq_some_iff.1 h1
      rw [List.drop_eq_getElem_cons hx0, List.drop_eq_getElem_cons hx1, e0, e1]
      rfl
    rw [e]
    exact k42_mkM _ _ _ _
section
variable {ops : Array Oper} {rest : List Oper} {o : Oper} {a : Act} {Qq : Exit → Act → World → Prop}
/-- append(v, ys...) in a plain region. -/
theorem append_recs {w0 W : World} (s x : Operand) (v : Value) (xs ys : List S42) (A : Option Addr) (m c : Nat) (hgd : o.guard = none) (ho : o.op = .call { callee := .builtin .append, args := #[s, x], argTypes := #[27, 27] })
    (hs : a.eval s = v) (hx : a.eval x = .slice A m c) (HO : OwnRecs W w0.heap.size v xs) (HR : Kd.C k42 W A m ys) (HB : Below w0.heap.size w0 W) (hl : xs.length + ys.length ≤ 1000000)
    (h : ∀ v1 w1, OwnRecs w1 w0.heap.size v1 (xs ++ ys) → Below w0.heap.size w0 w1 → W.grownBy w1 v.ownBlock → (v1.ownBlock = v.ownBlock ∨ ∃ b, v1.ownBlock = some b ∧ W.heap.size ≤ b) → wpList Tryd.prog ops Qq rest (a.put o.dst v1) w1) :
    wpList Tryd.prog ops Qq (o :: rest) a W := by
  obtain rfl : ys.length = m := HR.1
  exact Kd.R_append_rows k42 (w0 := w0) w0.heap.size hgd s x 27 42 (.agg #[.string ⟨#[]⟩, .string ⟨#[]⟩]) 32 ho Tryd.underlying27 info42 rfl (by decide) (by decide) v xs ys A ys.length c (fun _ => True) (fun _ => False) hs hx HO HR (fun x cs hk => (k42_open hk).symm ▸ k42_mkM _ _ _ _) (fun k hk => hk.elim) (fun _ _ => trivial) HB HB.size (by omega) h
end
theorem global_callN (w0 : World) (sb : Nat) (v : Value) (l : List S42) (A : Option Addr) (n c : Nat) (xs : List S42) (W : World) (hS : StateOwn W w0.heap.size sb v l) (hr : Kd.C k42 W A n xs) (hB : Below w0.heap.size w0 W) (hsb : w0.heap.size ≤ sb) (hn : l.length + n ≤ 1000000) :
    Calls Tryd.prog 10 #[.pointer (some ⟨sb, 0, none⟩), .slice A n c] W fun e w' => e = .returned (.tuple #[]) ∧ ∃ v', StateOwn w' w0.heap.size sb v' (l ++ xs) ∧ (v'.ownBlock = v.ownBlock ∨ ∃ b, v'.ownBlock = some b ∧ W.heap.size ≤ b) ∧ Grew W w' sb v ∧ Below w0.heap.size w0 w' := by
  obtain rfl : xs.length = n := hr.1
  exact global_call w0 sb v l A c xs W hS hr hB hsb hn
theorem apply_callN (sp : Option Addr) (g : List S42) (h : Hd) (A : Option Addr) (n c : Nat) (own : List S42) (w : World) (hS : StateIn w sp g) (hr : Kd.C k42 w A n own) (hn : n ≤ 1000000) (hg : g.length ≤ 1000000) (hErr : ErrsOk w) (hz : Small g) (hz2 : Small own) (o : Option Hd) (ho : applyO g own h = o) :
    Calls Tryd.prog 11 #[.pointer sp, .agg #[.string h.name, .string h.link, .int .u8 h.kind, .int .i64 h.mode, .int .i64 h.uid, .int .i64 h.gid, .int .i64 h.time, .int .i64 h.size, .bool h.gnu], .slice A n c] w fun e w' => e = .returned (.tuple #[.agg #[.string (hdOf o).name, .string (hdOf o).link, .int .u8 (hdOf o).kind, .int .i64 (hdOf o).mode, .int .i64 (hdOf o).uid, .int .i64 (hdOf o).gid, .int .i64 (hdOf o).time, .int .i64 (hdOf o).size, .bool (hdOf o).gnu], .int .i64 (errOf o)]) ∧ Below w.heap.size w w' := by
  obtain rfl : own.length = n := hr.1
  exact apply_call sp g h A c own w hS hr hn hg hErr hz hz2 o ho
/-- A header's variable: its nine cells. -/
structure HdAt (W : World) (b : Nat) (h : Hd) : Prop where
  c0 : W.cell? ⟨b, 0, none⟩ = some (.string h.name)
  c1 : W.cell? ⟨b, 1, none⟩ = some (.string h.link)
  c2 : W.cell? ⟨b, 2, none⟩ = some (.int .u8 h.kind)
  c3 : W.cell? ⟨b, 3, none⟩ = some (.int .i64 h.mode)
  c4 : W.cell? ⟨b, 4, none⟩ = some (.int .i64 h.uid)
  c5 : W.cell? ⟨b, 5, none⟩ = some (.int .i64 h.gid)
  c6 : W.cell? ⟨b, 6, none⟩ = some (.int .i64 h.time)
  c7 : W.cell? ⟨b, 7, none⟩ = some (.int .i64 h.size)
  c8 : W.cell? ⟨b, 8, none⟩ = some (.bool h.gnu)
def HdBlk (W : World) (b : Nat) (h : Hd) : Prop := W.heap[b]? = some (.cells #[.string h.name, .string h.link, .int .u8 h.kind, .int .i64 h.mode, .int .i64 h.uid, .int .i64 h.gid, .int .i64 h.time, .int .i64 h.size, .bool h.gnu] 25 (0, 0))
theorem HdBlk.at {W : World} {b : Nat} {h : Hd} (k : HdBlk W b h) : HdAt W b h :=
  ⟨(blk_at k 0 rfl).1, (blk_at k 1 rfl).1, (blk_at k 2 rfl).1, (blk_at k 3 rfl).1, (blk_at k 4 rfl).1, (blk_at k 5 rfl).1, (blk_at k 6 rfl).1, (blk_at k 7 rfl).1, (blk_at k 8 rfl).1⟩
theorem HdBlk.lt {W : World} {b : Nat} {h : Hd} (k : HdBlk W b h) : b < W.heap.size := (Array.getElem?_eq_some_iff.1 k).1
theorem HdBlk.below {W W2 : World} {b : Nat} {h : Hd} (k : HdBlk W b h) (hb : Below W.heap.size W W2) : HdBlk W2 b h := (hb.block b k.lt).trans k
theorem HdBlk.grew {W W2 : World} {b sb : Nat} {h : Hd} {v : Value} (k : HdBlk W b h) (g : Grew W W2 sb v) (h1 : b ≠ sb) (h2 : some b ≠ v.ownBlock) : HdBlk W2 b h := (g.block b k.lt h1 h2).trans k
theorem HdBlk.made (W : World) (h : Hd) : HdBlk (W.alloc (.cells #[.string h.name, .string h.link, .int .u8 h.kind, .int .i64 h.mode, .int .i64 h.uid, .int .i64 h.gid, .int .i64 h.time, .int .i64 h.size, .bool h.gnu] 25)) W.heap.size h := World.alloc_heap_new W _
/-- A header's variable is no row of records. -/
theorem HdBlk.ne {W : World} {b sb base : Nat} {h : Hd} {v : Value} {l : List S42} (k : HdBlk W b h) (s : StateOwn W base sb v l) : b ≠ sb ∧ some b ≠ v.ownBlock := by
  refine ⟨fun e => ?_, Kd.R_ne s.2 k (by decide)⟩
  subst e
  have h1 := s.1.symm.trans k
  simp at h1
theorem StateOwn.ne {W : World} {sb base : Nat} {v : Value} {l : List S42} (s : StateOwn W base sb v l) : some sb ≠ v.ownBlock := Kd.R_ne s.2 s.1 (by decide)
theorem StateOwn.ne2 {W : World} {sb sb2 base : Nat} {v v2 : Value} {l l2 : List S42} (s : StateOwn W base sb v l) (s2 : StateOwn W base sb2 v2 l2) : some sb ≠ v2.ownBlock := Kd.R_ne s2.2 s.1 (by decide)
end Go.Proofs.YtehfblmconkdhaaDoor.Q
