/- bindlelaw07.answers: a state with one record, two headers. -/
import Derived.Test.YtehfblmconkdhaaDoorXCall7
namespace Go.Proofs.YtehfblmconkdhaaDoor.Q
open Go.RowKit Go.Proofs.YtehfblmconkdhaaDoorW.PrintWords Go.Proofs.YtehfblmconkdhaaDoorW.PrintLast Go.Proofs.YtehfblmconkdhaaDoorW.PrintMore
set_option linter.unusedVariables false
set_option linter.unusedSimpArgs false
def rUid5 : S42 := ⟨⟨#[117, 105, 100]⟩, ⟨#[53]⟩⟩
def rPath : S42 := ⟨⟨#[112, 97, 116, 104]⟩, ⟨#[112]⟩⟩
def rUid0 : S42 := ⟨⟨#[117, 105, 100]⟩, ⟨#[]⟩⟩
def hN : Hd := { Hd.zero with name := ⟨#[110]⟩ }
def hP5 : Hd := { Hd.zero with name := ⟨#[112]⟩, uid := 5 }
set_option maxRecDepth 100000 in
theorem ans_a : applyO [rUid5] [rPath] hN = some hP5 := by kernel_rfl
set_option maxRecDepth 100000 in
theorem ans_b : applyO [rUid5] [rUid0] Hd.zero = some Hd.zero := by kernel_rfl
theorem ans_v : valueOf [rUid5] [] ⟨#[117, 105, 100]⟩ = ⟨#[53]⟩ := by kernel_rfl
theorem small_one {x : S42} (h : x.f1.size ≤ 281474976710656) : Small [x] := fun y hy => by
  rw [List.mem_singleton.1 hy]
  exact h
theorem one_reads (W : World) (x : S42) : Kd.C k42 (W.alloc (.cells #[.string x.f0, .string x.f1] 42)) (some ⟨W.heap.size, 0, none⟩) [x].length [x] := recs_reads W [x] 42 (0, 0) (by simp)
theorem ansG (w0 : World) (sb : Nat) (W : World) (b : Nat) (hb : W.heap.size = b) (hS : StateOwn W w0.heap.size sb (.slice none 0 0) []) (hB : Below w0.heap.size w0 W) (hsb : w0.heap.size ≤ sb) :
    Calls Tryd.prog 10 #[.pointer (some ⟨sb, 0, none⟩), .slice (some ⟨b, 0, none⟩) 1 1] (W.alloc (.cells #[.string ⟨#[117, 105, 100]⟩, .string ⟨#[53]⟩] 42)) fun e w' => e = .returned (.tuple #[]) ∧ ∃ v', StateOwn w' w0.heap.size sb v' [rUid5] ∧ Below w0.heap.size w0 w' := by
  subst hb
  refine (global_call w0 sb (.slice none 0 0) [] (some ⟨W.heap.size, 0, none⟩) 1 [rUid5] (W.alloc (.cells #[.string ⟨#[117, 105, 100]⟩, .string ⟨#[53]⟩] 42)) (hS.below (below_alloc (Below.refl _ _) _)) (one_reads W rUid5) (below_alloc hB _) hsb (by simp)).mono ?_
  rintro e w' ⟨rfl, v', h1, _, _, h2⟩
  exact ⟨rfl, v', h1, h2⟩
theorem ansA (w0 : World) (sb : Nat) (v : Value) (W : World) (b : Nat) (hb0 : W.heap.size = b) (hS : StateOwn W w0.heap.size sb v [rUid5]) (hE : ErrsOk W) :
    Calls Tryd.prog 11 #[.pointer (some ⟨sb, 0, none⟩), .agg #[.string ⟨#[110]⟩, .string ⟨#[]⟩, .int .u8 0, .int .i64 0, .int .i64 0, .int .i64 0, .int .i64 0, .int .i64 0, .bool false], .slice (some ⟨b, 0, none⟩) 1 1] (W.alloc (.cells #[.string ⟨#[112, 97, 116, 104]⟩, .string ⟨#[112]⟩] 42)) fun e w' => e = .returned (.tuple #[.agg #[.string ⟨#[112]⟩, .string ⟨#[]⟩, .int .u8 0, .int .i64 0, .int .i64 5, .int .i64 0, .int .i64 0, .int .i64 0, .bool false], .int .i64 0]) ∧ Below W.heap.size W w' := by
  subst hb0
  have hb : Below W.heap.size W (W.alloc (.cells #[.string ⟨#[112, 97, 116, 104]⟩, .string ⟨#[112]⟩] 42)) := below_alloc (Below.refl _ _) _
  refine (apply_call (some ⟨sb, 0, none⟩) [rUid5] hN (some ⟨W.heap.size, 0, none⟩) 1 [rPath] _ (hS.below hb).reads (one_reads W rPath) (by simp) (by simp) (hE.keep hb) (small_one (by decide)) (small_one (by decide)) _ ans_a).mono ?_
  rintro e w' ⟨rfl, h2⟩
  exact ⟨rfl, below_then hb hb.size h2⟩
theorem ansB (w0 : World) (sb : Nat) (v : Value) (W : World) (b : Nat) (hb0 : W.heap.size = b) (hS : StateOwn W w0.heap.size sb v [rUid5]) (hE : ErrsOk W) :
    Calls Tryd.prog 11 #[.pointer (some ⟨sb, 0, none⟩), .agg #[.string ⟨#[]⟩, .string ⟨#[]⟩, .int .u8 0, .int .i64 0, .int .i64 0, .int .i64 0, .int .i64 0, .int .i64 0, .bool false], .slice (some ⟨b, 0, none⟩) 1 1] (W.alloc (.cells #[.string ⟨#[117, 105, 100]⟩, .string ⟨#[]⟩] 42)) fun e w' => e = .returned (.tuple #[.agg #[.string ⟨#[]⟩, .string ⟨#[]⟩, .int .u8 0, .int .i64 0, .int .i64 0, .int .i64 0, .int .i64 0, .int .i64 0, .bool false], .int .i64 0]) ∧ Below W.heap.size W w' := by
  subst hb0
  have hb : Below W.heap.size W (W.alloc (.cells #[.string ⟨#[117, 105, 100]⟩, .string ⟨#[]⟩] 42)) := below_alloc (Below.refl _ _) _
  refine (apply_call (some ⟨sb, 0, none⟩) [rUid5] Hd.zero (some ⟨W.heap.size, 0, none⟩) 1 [rUid0] _ (hS.below hb).reads (one_reads W rUid0) (by simp) (by simp) (hE.keep hb) (small_one (by decide)) (small_one (by decide)) _ ans_b).mono ?_
  rintro e w' ⟨rfl, h2⟩
  exact ⟨rfl, below_then hb hb.size h2⟩
theorem ansV (w0 : World) (sb : Nat) (v : Value) (W : World) (hS : StateOwn W w0.heap.size sb v [rUid5]) :
    Calls Tryd.prog 13 #[.pointer (some ⟨sb, 0, none⟩), .string ⟨#[117, 105, 100]⟩, .slice none 0 0] W fun e w' => e = .returned (.string ⟨#[53]⟩) ∧ Below W.heap.size W w' := by
  rw [← ans_v]
  exact value_walk (some ⟨sb, 0, none⟩) [rUid5] _ none 0 [] W hS.reads ⟨rfl, by decide, fun h => absurd h (by decide)⟩ (by simp) (by simp)
set_option maxRecDepth 100000 in
set_option maxHeartbeats 2000000 in
theorem ans7_call (w : World) (hE : ErrsOk w) : Calls Tryd.prog 9 #[] w fun e w' => e = .returned (.bool true) ∧ Below w.heap.size w w' := by
  have HE := Aside0.mk hE
  have HB0 := Aside0.mk (below_alloc (Below.refl w.heap.size w) (.cells #[.slice none 0 0] 30))
  have HS0 := Aside0.mk (made_state w)
  clear hE
  go_enter Tryd.func9, Tryd.ntmps9
  go_upto_region 3 with (go_at_call 10; with_reducible refine (ansG w w.heap.size _ _ (by simp) HS0.out HB0.out (Nat.le_refl _)).mono ?_; rintro e w1 ⟨rfl, v1, hs1, hb1⟩; have HS1 := Aside0.mk hs1; have HB1 := Aside0.mk hb1; clear hs1 hb1)
  clear HS0 HB0
  go_upto_region 4 with (go_at_call 11; with_reducible refine (ansA w w.heap.size _ _ _ rfl HS1.out (HE.out.keep HB1.out)).mono ?_; rintro e w2 ⟨rfl, hb2⟩; have HS2 := Aside0.mk (HS1.out.below hb2); have HB2 := Aside0.mk (below_then HB1.out HB1.out.size hb2); clear hb2)
  clear HS1 HB1
  go_upto_region 5 with (go_at_call 11; with_reducible refine (ansB w w.heap.size _ _ _ (by simp) (HS2.out.below (below_alloc (Below.refl _ _) _)) (HE.out.keep (below_alloc HB2.out _))).mono ?_; rintro e w3 ⟨rfl, hb3⟩; have HS3 := Aside0.mk ((HS2.out.below (below_alloc (Below.refl _ _) _)).below hb3); have hx3 := Aside0.mk ((hb3.block w2.heap.size (by simp)).trans (World.alloc_heap_new w2 _)); have HB3 := Aside0.mk (below_then (below_alloc HB2.out _) (below_alloc HB2.out _).size hb3); clear hb3)
  clear HS2 HB2
  have hlt3 : w2.heap.size < w3.heap.size := (Array.getElem?_eq_some_iff.1 hx3.out).1
  obtain ⟨Z, hZ⟩ : ∃ Z, Obj.cells #[.string ⟨#[]⟩, .string ⟨#[]⟩, .int .u8 0, .int .i64 0, .int .i64 0, .int .i64 0, .int .i64 0, .int .i64 0, .bool false] 25 = Z := ⟨_, rfl⟩
  have hy4 : (w3.alloc Z).heap[w3.heap.size]? = some (.cells #[.string ⟨#[]⟩, .string ⟨#[]⟩, .int .u8 0, .int .i64 0, .int .i64 0, .int .i64 0, .int .i64 0, .int .i64 0, .bool false] 25 (0, 0)) := by rw [hZ]; exact World.alloc_heap_new w3 Z
  have hx4 := (Below.heap_alloc w3 Z w2.heap.size hlt3).trans hx3.out
  have HS4 := Aside0.mk (HS3.out.below (below_alloc (Below.refl _ _) Z))
  have HB4 := Aside0.mk (below_alloc HB3.out Z)
  rw [hZ]
  generalize w3.alloc Z = w4 at hy4 hx4 HS4 HB4 ⊢
  obtain ⟨hc0, hf0⟩ := blk_at hx4 0 rfl
  obtain ⟨hc4, hf4⟩ := blk_at hx4 4 rfl
  obtain ⟨hd4, hg4⟩ := blk_at hy4 4 rfl
  clear hy4 hx4 HS3 HB3 hx3 hZ hlt3 HE
  go_wp2_with (go_at_call 13; with_reducible refine (ansV w w.heap.size _ _ HS4.out).mono ?_; rintro e w5 ⟨rfl, hb5⟩; have HB5 := Aside0.mk (below_then HB4.out HB4.out.size hb5); clear hb5)
  go_ret
  exact ⟨rfl, HB5.out⟩
end Go.Proofs.YtehfblmconkdhaaDoor.Q
