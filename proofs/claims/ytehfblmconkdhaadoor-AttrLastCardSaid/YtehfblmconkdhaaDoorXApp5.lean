/- Words for AttrLast: appends in an open order, a header stored whole, what more records behind change. -/
import Derived.Test.YtehfblmconkdhaaDoorXApp7
namespace Go.Proofs.YtehfblmconkdhaaDoor.Q
open Go.RowKit Go.Proofs.YtehfblmconkdhaaDoorW.PrintWords Go.Proofs.YtehfblmconkdhaaDoorW.PrintLast Go.Proofs.YtehfblmconkdhaaDoorW.PrintMore
set_option linter.unusedVariables false
section
variable {ops : Array Oper} {o : Oper} {a : Act} {Qq : Exit → Act → World → Prop} {Kc : Act → World → Prop}
theorem append_recs_step {w0 W : World} (s x : Operand) (v : Value) (xs ys : List S42) (A : Option Addr) (m c : Nat) (hw : Region.wanted o (yielded ops a.tmps) = true) (ho : o.op = .call { callee := .builtin .append, args := #[s, x], argTypes := #[27, 27] })
    (hs : a.eval s = v) (hx : a.eval x = .slice A m c) (HO : OwnRecs W w0.heap.size v xs) (HR : Kd.C k42 W A m ys) (HB : Below w0.heap.size w0 W) (hl : xs.length + ys.length ≤ 1000000)
    (h : ∀ v1 w1, OwnRecs w1 w0.heap.size v1 (xs ++ ys) → Below w0.heap.size w0 w1 → W.grownBy w1 v.ownBlock → Kc (a.put o.dst v1) w1) :
    if Region.wanted o (yielded ops a.tmps) = true then Oper.wp Tryd.prog o a W Kc Qq else Kc (a.put o.dst undef) W := by
  obtain rfl : ys.length = m := HR.1
  exact Kd.R_append_rows_step k42 (w0 := w0) w0.heap.size hw s x 27 42 (.agg #[.string ⟨#[]⟩, .string ⟨#[]⟩]) 32 ho Tryd.underlying27 info42 rfl (by decide) (by decide) v xs ys A ys.length c (fun _ => True) (fun _ => False) hs hx HO HR (fun x cs hk => (k42_open hk).symm ▸ k42_mkM _ _ _ _) (fun k hk => hk.elim) (fun _ _ => trivial) HB HB.size (by omega) (fun v1 w1 h1 h2 h3 _ => h v1 w1 h1 h2 h3)
end
/-- One record's array. -/
def RecBlk (W : World) (b : Nat) (x : S42) : Prop := W.heap[b]? = some (.cells #[.string x.f0, .string x.f1] 42 (0, 0))
theorem RecBlk.lt {W : World} {b : Nat} {x : S42} (h : RecBlk W b x) : b < W.heap.size := (Array.getElem?_eq_some_iff.1 h).1
theorem RecBlk.below {W W2 : World} {b : Nat} {x : S42} (h : RecBlk W b x) (hb : Below W.heap.size W W2) : RecBlk W2 b x := (hb.block b h.lt).trans h
theorem RecBlk.grown {W W2 : World} {b : Nat} {x : S42} {row : Option Nat} (h : RecBlk W b x) (g : W.grownBy W2 row) (hne : some b ≠ row) : RecBlk W2 b x := (g.block b h.lt hne).trans h
theorem RecBlk.reads {W : World} {b : Nat} {x : S42} (h : RecBlk W b x) : Kd.C k42 W (some ⟨b, 0, none⟩) 1 [x] := by
  refine ⟨rfl, by decide, fun _ => ⟨_, rfl, fun j p hp => ⟨[.string p.f0, .string p.f1], rfl, k42_mk _ _, fun i u hu => ?_⟩⟩⟩
  obtain ⟨rfl, rfl⟩ : j = 0 ∧ x = p := by
    cases j with
    | zero => exact ⟨rfl, by simpa using hp⟩
    | succ j => simp at hp
  rw [Nat.zero_mul, Nat.zero_add, add_plain]
  have h2 : W.heap[b]? = _ := h
  simp only [World.cell?, h2]
  rcases i with _ | _ | i
  · simpa using hu
  · simpa using hu
  · simp at hu
/-- A new header's variable, its zeros. -/
def ZeroBlk (W : World) (b : Nat) : Prop := W.heap[b]? = some (.cells #[.string ⟨#[]⟩, .string ⟨#[]⟩, .int .u8 0, .int .i64 0, .int .i64 0, .int .i64 0, .int .i64 0, .int .i64 0, .bool false] 25 (0, 0))
theorem ZeroBlk.lt {W : World} {b : Nat} (h : ZeroBlk W b) : b < W.heap.size := (Array.getElem?_eq_some_iff.1 h).1
theorem ZeroBlk.below {W W2 : World} {b : Nat} (h : ZeroBlk W b) (hb : Below W.heap.size W W2) : ZeroBlk W2 b := (hb.block b h.lt).trans h
theorem ZeroBlk.grown {W W2 : World} {b base : Nat} {v : Value} {l : List S42} (h : ZeroBlk W b) (r : OwnRecs W base v l) (g : W.grownBy W2 v.ownBlock) : ZeroBlk W2 b := (g.block b h.lt (Kd.R_ne r h (by decide))).trans h
/-- A header stored whole into a variable. -/
theorem hd_put {w W : World} {b : Nat} (k : Hd) (hb : Below w.heap.size w W) (hres : ZeroBlk W b) (hle : w.heap.size ≤ b) :
    HdBlk (((((((((W.setCell ⟨b, 0, none⟩ (.string k.name)).setCell ⟨b, 1, none⟩ (.string k.link)).setCell ⟨b, 2, none⟩ (.int .u8 k.kind)).setCell ⟨b, 3, none⟩ (.int .i64 k.mode)).setCell ⟨b, 4, none⟩ (.int .i64 k.uid)).setCell ⟨b, 5, none⟩ (.int .i64 k.gid)).setCell ⟨b, 6, none⟩ (.int .i64 k.time)).setCell ⟨b, 7, none⟩ (.int .i64 k.size)).setCell ⟨b, 8, none⟩ (.bool k.gnu)) b k ∧ Below w.heap.size w (((((((((W.setCell ⟨b, 0, none⟩ (.string k.name)).setCell ⟨b, 1, none⟩ (.string k.link)).setCell ⟨b, 2, none⟩ (.int .u8 k.kind)).setCell ⟨b, 3, none⟩ (.int .i64 k.mode)).setCell ⟨b, 4, none⟩ (.int .i64 k.uid)).setCell ⟨b, 5, none⟩ (.int .i64 k.gid)).setCell ⟨b, 6, none⟩ (.int .i64 k.time)).setCell ⟨b, 7, none⟩ (.int .i64 k.size)).setCell ⟨b, 8, none⟩ (.bool k.gnu)) := by
  refine ⟨?_, below_set (below_set (below_set (below_set (below_set (below_set (below_set (below_set (below_set hb hle) hle) hle) hle) hle) hle) hle) hle) hle⟩
  have r0 : W.heap[b]? = some (.cells #[.string ⟨#[]⟩, .string ⟨#[]⟩, .int .u8 0, .int .i64 0, .int .i64 0, .int .i64 0, .int .i64 0, .int .i64 0, .bool false] 25 (0, 0)) := hres
  have r1 := blk_put (cs' := #[.string k.name, .string ⟨#[]⟩, .int .u8 0, .int .i64 0, .int .i64 0, .int .i64 0, .int .i64 0, .int .i64 0, .bool false]) r0 0 (.string k.name) rfl
  have r2 := blk_put (cs' := #[.string k.name, .string k.link, .int .u8 0, .int .i64 0, .int .i64 0, .int .i64 0, .int .i64 0, .int .i64 0, .bool false]) r1 1 (.string k.link) rfl
  have r3 := blk_put (cs' := #[.string k.name, .string k.link, .int .u8 k.kind, .int .i64 0, .int .i64 0, .int .i64 0, .int .i64 0, .int .i64 0, .bool false]) r2 2 (.int .u8 k.kind) rfl
  have r4 := blk_put (cs' := #[.string k.name, .string k.link, .int .u8 k.kind, .int .i64 k.mode, .int .i64 0, .int .i64 0, .int .i64 0, .int .i64 0, .bool false]) r3 3 (.int .i64 k.mode) rfl
  have r5 := blk_put (cs' := #[.string k.name, .string k.link, .int .u8 k.kind, .int .i64 k.mode, .int .i64 k.uid, .int .i64 0, .int .i64 0, .int .i64 0, .bool false]) r4 4 (.int .i64 k.uid) rfl
  have r6 := blk_put (cs' := #[.string k.name, .string k.link, .int .u8 k.kind, .int .i64 k.mode, .int .i64 k.uid, .int .i64 k.gid, .int .i64 0, .int .i64 0, .bool false]) r5 5 (.int .i64 k.gid) rfl
  have r7 := blk_put (cs' := #[.string k.name, .string k.link, .int .u8 k.kind, .int .i64 k.mode, .int .i64 k.uid, .int .i64 k.gid, .int .i64 k.time, .int .i64 0, .bool false]) r6 6 (.int .i64 k.time) rfl
  have r8 := blk_put (cs' := #[.string k.name, .string k.link, .int .u8 k.kind, .int .i64 k.mode, .int .i64 k.uid, .int .i64 k.gid, .int .i64 k.time, .int .i64 k.size, .bool false]) r7 7 (.int .i64 k.size) rfl
  exact blk_put r8 8 (.bool k.gnu) rfl
/-! ### what more records behind change -/
def rComment (v : ByteArray) : S42 := ⟨⟨#[99, 111, 109, 109, 101, 110, 116]⟩, v⟩
theorem apply_comment (g own : List S42) (h : Hd) (v : ByteArray) : applyO g (own ++ [rComment v]) h = applyO g own h := by
  unfold applyO
  rw [valueOf_other g own (rComment v) bPath (by show ((⟨#[99, 111, 109, 109, 101, 110, 116]⟩ : ByteArray).toList == bPath.toList) = false; decide +kernel),
    valueOf_other g own (rComment v) bLink (by show ((⟨#[99, 111, 109, 109, 101, 110, 116]⟩ : ByteArray).toList == bLink.toList) = false; decide +kernel),
    valueOf_other g own (rComment v) bUid (by show ((⟨#[99, 111, 109, 109, 101, 110, 116]⟩ : ByteArray).toList == bUid.toList) = false; decide +kernel),
    valueOf_other g own (rComment v) bGid (by show ((⟨#[99, 111, 109, 109, 101, 110, 116]⟩ : ByteArray).toList == bGid.toList) = false; decide +kernel),
    valueOf_other g own (rComment v) bTime (by show ((⟨#[99, 111, 109, 109, 101, 110, 116]⟩ : ByteArray).toList == bTime.toList) = false; decide +kernel),
    valueOf_other g own (rComment v) bSize (by show ((⟨#[99, 111, 109, 109, 101, 110, 116]⟩ : ByteArray).toList == bSize.toList) = false; decide +kernel)]
def hiddenL : List S42 := [⟨⟨#[112, 97, 116, 104]⟩, ⟨#[]⟩⟩, ⟨⟨#[108, 105, 110, 107, 112, 97, 116, 104]⟩, ⟨#[]⟩⟩, ⟨⟨#[117, 105, 100]⟩, ⟨#[]⟩⟩, ⟨⟨#[103, 105, 100]⟩, ⟨#[]⟩⟩, ⟨⟨#[109, 116, 105, 109, 101]⟩, ⟨#[]⟩⟩, ⟨⟨#[115, 105, 122, 101]⟩, ⟨#[]⟩⟩]
theorem apply_hidden (g own : List S42) (h : Hd) : applyO g (own ++ hiddenL) h = some h := by
  unfold applyO
  rw [valueOf_behind g own hiddenL bPath ⟨#[]⟩ (by kernel_rfl), valueOf_behind g own hiddenL bLink ⟨#[]⟩ (by kernel_rfl), valueOf_behind g own hiddenL bUid ⟨#[]⟩ (by kernel_rfl), valueOf_behind g own hiddenL bGid ⟨#[]⟩ (by kernel_rfl), valueOf_behind g own hiddenL bTime ⟨#[]⟩ (by kernel_rfl), valueOf_behind g own hiddenL bSize ⟨#[]⟩ (by kernel_rfl)]
  have h0 : (⟨#[]⟩ : ByteArray).toList = [] := by decide +kernel
  unfold applyS numOk newStr newNum
  simp [h0]
theorem value_last (sp : Option Addr) (g : List S42) (A : Option Addr) (n c : Nat) (own : List S42) (key value : ByteArray) (w : World) (hS : StateIn w sp g) (hr : Kd.C k42 w A n (own ++ [⟨key, value⟩])) (hn : n ≤ 1000000) (hg : g.length ≤ 1000000) :
    Calls Tryd.prog 13 #[.pointer sp, .string key, .slice A n c] w fun e w' => e = .returned (.string value) ∧ Below w.heap.size w w' := by
  obtain ⟨m, hm⟩ : ∃ m : List S42, own ++ [⟨key, value⟩] = m := ⟨_, rfl⟩
  have hv : valueOf g m key = value := by rw [← hm]; exact valueOf_last g own key value
  rw [hm] at hr
  obtain rfl : m.length = n := hr.1
  have := value_walk sp g key A c m w hS hr (by omega) (by omega)
  rw [hv] at this
  exact this
theorem hidden_reads (W : World) : Kd.C k42 (W.alloc (.cells #[.string ⟨#[112, 97, 116, 104]⟩, .string ⟨#[]⟩, .string ⟨#[108, 105, 110, 107, 112, 97, 116, 104]⟩, .string ⟨#[]⟩, .string ⟨#[117, 105, 100]⟩, .string ⟨#[]⟩, .string ⟨#[103, 105, 100]⟩, .string ⟨#[]⟩, .string ⟨#[109, 116, 105, 109, 101]⟩, .string ⟨#[]⟩, .string ⟨#[115, 105, 122, 101]⟩, .string ⟨#[]⟩] 42)) (some ⟨W.heap.size, 0, none⟩) 6 hiddenL := recs_reads W hiddenL 42 (0, 0) (by decide)
theorem hidden_small : Small hiddenL := by
  intro x hx
  have : ∀ y ∈ hiddenL, y.f1.size ≤ 281474976710656 := by decide +kernel
  exact this x hx
end Go.Proofs.YtehfblmconkdhaaDoor.Q
