/- bindlelaw06.answers: two records, there and back. -/
import Derived.Lib.SlBytesConst
import Derived.Test.YtehfblmconkdhaaDoorQ4
import Derived.Test.YtehfblmconkdhaaDoorQ8
import Derived.Test.YtehfblmconkdhaaDoorQ15
namespace Go.Proofs.YtehfblmconkdhaaDoor.Q
open Go.RowKit Go.Proofs.YtehfblmconkdhaaDoorW.PrintWords Go.Proofs.YtehfblmconkdhaaDoorW.PrintLast Go.Proofs.YtehfblmconkdhaaDoorW.PrintMore
set_option linter.unusedVariables false
set_option linter.unusedSimpArgs false
def line9 : ByteArray := ⟨#[57, 32, 112, 97, 116, 104, 61, 97, 10]⟩
def line11 : List Int := [49, 49, 32, 112, 97, 116, 104, 61, 97, 10]
set_option maxRecDepth 100000 in
theorem line9_is : record_Line.f 10 ⟨#[112, 97, 116, 104]⟩ ⟨#[97]⟩ = some (line9, true) := by decide +kernel
def rec1 : S42 := ⟨⟨#[112, 97, 116, 104]⟩, ⟨#[97]⟩⟩
set_option maxRecDepth 100000 in
theorem parse9_is : record_Parse.f 10 (bytesOf line9) = some ([rec1], 0) := by kernel_rfl
set_option maxRecDepth 100000 in
theorem parse11_is : record_Parse.f 10 line11 = some ([], 5) := by kernel_rfl
def bindlelaw06_answers.f : Option Bool := some true
theorem line_call (w : World) (hT : TabsOk w) : Calls Tryd.prog 15 #[.agg #[.string ⟨#[112, 97, 116, 104]⟩, .string ⟨#[97]⟩]] w fun e w' => e = .returned (.tuple #[.string line9, .bool true]) ∧ Below w.heap.size w w' := record_Line.calls 10 _ _ _ _ w hT line9_is
theorem parse9_call (W : World) (hT : TabsOk W) : Calls Tryd.prog 25 #[.slice (some ⟨W.heap.size, 0, none⟩) line9.size (grownCap W line9.size 0 5)] (Lib.bytesWorld W 5 line9) fun e w' => ∃ A c, e = .returned (.tuple #[.slice A 1 c, .int .i64 0]) ∧ Kd.C k42 w' A 1 [rec1] ∧ Below W.heap.size W w' := by
  have hr : Kd.C (Kd.int .u8) (Lib.bytesWorld W 5 line9) (some ⟨W.heap.size, 0, none⟩) (bytesOf line9).length (bytesOf line9) := Kd.C_of_reads (enc := Value.int .u8) (d := (0 : Int)) (h1 := fun _ => rfl) (bytes_reads W 5 line9 (by decide))
  refine (record_Parse.calls 10 (some ⟨W.heap.size, 0, none⟩) (grownCap W line9.size 0 5) (bytesOf line9) [rec1] 0 _ (hT.keep (bytes_below (Below.refl _ _) (Nat.le_refl _) 5 line9)) hr (by rw [bytesOf_length]; exact grownCap_ge _ _ _ _) parse9_is).mono ?_
  rintro e w' ⟨v0, rfl, h1, h2⟩
  obtain ⟨A, c, rfl, hl, hc⟩ := Kd.R_reads h1
  exact ⟨A, c, rfl, hc, below_then (bytes_below (Below.refl _ _) (Nat.le_refl _) 5 line9) (bytes_below (Below.refl _ _) (Nat.le_refl _) 5 line9).size h2⟩
theorem marked_reads (W : World) : Kd.C (Kd.int .u8) (W.alloc (.cells #[.int .u8 49, .int .u8 49, .int .u8 32, .int .u8 112, .int .u8 97, .int .u8 116, .int .u8 104, .int .u8 61, .int .u8 97, .int .u8 10] 5 (10, 11))) (some ⟨W.heap.size, 0, none⟩) line11.length line11 := by
  refine Kd.C_of_reads (enc := Value.int .u8) (d := (0 : Int)) (h1 := fun _ => rfl) ⟨rfl, by decide, fun _ => ⟨_, rfl, fun j hj => ?_⟩⟩
  have hc : ∀ (C : Array Value), (W.alloc (.cells C 5 (10, 11))).cell? ⟨W.heap.size, j, none⟩ = C[j]? := fun C => by
    simp [World.cell?, World.alloc, -World.alloc_eq]
  rw [add_plain, hc]
  have hj : j < 10 := hj
  rcases j with _ | _ | _ | _ | _ | _ | _ | _ | _ | _ | j
  all_goals first | rfl | omega
theorem parse11_call (W : World) (hT : TabsOk W) : Calls Tryd.prog 25 #[.slice (some ⟨W.heap.size, 0, none⟩) 10 10] (W.alloc (.cells #[.int .u8 49, .int .u8 49, .int .u8 32, .int .u8 112, .int .u8 97, .int .u8 116, .int .u8 104, .int .u8 61, .int .u8 97, .int .u8 10] 5 (10, 11))) fun e w' => ∃ A c, e = .returned (.tuple #[.slice A 0 c, .int .i64 5]) ∧ Below W.heap.size W w' := by
  refine (record_Parse.calls 10 (some ⟨W.heap.size, 0, none⟩) 10 line11 [] 5 _ (hT.keep (below_alloc (Below.refl _ _) _)) (marked_reads W) (by decide) parse11_is).mono ?_
  rintro e w' ⟨v0, rfl, h1, h2⟩
  obtain ⟨A, c, rfl, hl, hc⟩ := Kd.R_reads h1
  exact ⟨A, c, rfl, below_then (below_alloc (Below.refl _ _) _) (below_alloc (Below.refl _ W) _).size h2⟩
theorem rec1_at {w : World} {ad : Addr} (h : w.cell? ⟨(ad.add (Int.toNat 0 * 2)).block, (ad.add (Int.toNat 0 * 2)).off + 1, none⟩ = some (.string (rd_T42 [rec1] 0).f1)) : w.cell? ⟨ad.block, ad.off + 1, none⟩ = some (.string ⟨#[97]⟩) := by
  simpa [Addr.add, rd_T42, rec1] using h
set_option maxRecDepth 100000 in
set_option maxHeartbeats 400000 in
theorem bindlelaw06_answers.walk (w : World) (hTab_ : TabsOk w) :
    Calls Tryd.prog 17 #[] w fun e w' => e = .returned (.bool true) ∧ Below w.heap.size w w' := by
  have HTAB_ := Aside0.mk hTab_
  have hB := Aside0.mk (Below.refl w.heap.size w)
  clear hTab_
  have kb := fun W => print_bytes (P := Tryd.prog) 9 47 5 Tryd.underlying9 Tryd.underlying47 Tryd.underlying5 line9 W
  have kc := fun (w : World) (C : Array Value) (n c : Nat) => Lib.run_convert_bytes_const (P := Tryd.prog) w 47 5 C n c Tryd.underlying47 Tryd.underlying5
  have hq : (line9.toList == [57, 32, 112, 97, 116, 104, 61, 97, 10]) = true := by decide +kernel
  have el : ∀ args w, (callFunc 15 args).run Tryd.prog w = .ok (.enter 15 args) w := enters_of Tryd.func15 (by kernel_rfl) rfl
  have ep : ∀ args w, (callFunc 25 args).run Tryd.prog w = .ok (.enter 25 args) w := enters_of Tryd.func25 (by kernel_rfl) rfl
  go_enter Tryd.func17, Tryd.ntmps17
  go_wp2_with (first
    | (go_at_call 15; with_reducible refine (line_call _ HTAB_.out).mono ?_; rintro e w1 ⟨rfl, hb1⟩)
    | (go_at_call 25; with_reducible refine (parse9_call _ (HTAB_.out.keep hb1)).mono ?_; rintro e w2 ⟨A, c, rfl, hc, hb2⟩; have HC := Aside0.mk hc; clear hc)
    | (go_at_call 25; with_reducible refine (parse11_call _ ((HTAB_.out.keep hb1).keep hb2)).mono ?_; rintro e w3 ⟨A', c', rfl, hb3⟩; obtain ⟨ad, e1, hx1, hx2⟩ := at_T42 (Kd.C_below HC.out hb3) 0 (by decide) (by decide); subst e1; have hx3 := rec1_at hx2; clear hx1 hx2))
  go_ret
  exact ⟨rfl, below_then (below_then (below_then hB.out (Nat.le_refl _) hb1) hb1.size hb2) (Nat.le_trans hb1.size hb2.size) hb3⟩
theorem bindlelaw06_answers.calls (r : Bool) (w : World) (hTab_ : TabsOk w) (h : bindlelaw06_answers.f = some r) :
    Calls Tryd.prog 17 #[] w fun e w' => e = .returned (.bool r) ∧ Below w.heap.size w w' := by
  cases h
  exact bindlelaw06_answers.walk w hTab_
end Go.Proofs.YtehfblmconkdhaaDoor.Q
