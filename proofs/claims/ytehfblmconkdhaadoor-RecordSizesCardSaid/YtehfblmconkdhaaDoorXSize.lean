/- record.size: how many bytes a line is said to have; told here where the head is digits. -/
import Derived.Test.YtehfblmconkdhaaDoorXLib
namespace Go.Proofs.YtehfblmconkdhaaDoor.Q
open Go.RowKit Go.Proofs.YtehfblmconkdhaaDoorW.PrintWords Go.Proofs.YtehfblmconkdhaaDoorW.PrintLast Go.Proofs.YtehfblmconkdhaaDoorW.PrintMore
set_option linter.unusedVariables false
set_option linter.unusedSimpArgs false
def digits : ByteArray := ⟨#[48, 49, 50, 51, 52, 53, 54, 55, 56, 57]⟩
def headOk (h : ByteArray) : Bool := decide (1 ≤ h.size) && decide (h.size ≤ 7) && (bt h 0 != 48) && (Lib.trimS h.data.toList digits.data.toList == [])
def record_size.f (a0 : ByteArray) : Option (Int × Int × Bool) :=
  (strings_Cut.f a0 ⟨#[32]⟩).bind fun c =>
    if c.2.2 = true then if headOk c.1 = true then
      (Lib.atoi c.1.data.toList).bind fun n => if -9223372036854775808 ≤ n ∧ n ≤ 9223372036854775807 then some (n, (c.1.size : Int) + 1, decide (n ≤ (a0.size : Int)) && decide ((c.1.size : Int) + 1 + 3 ≤ n)) else none
    else none else none
theorem trim_digits (hd : ByteArray) (w : World) (hs : hd.size ≤ 7) :
    Calls Tryd.prog 36 #[.string hd, .string ⟨#[48, 49, 50, 51, 52, 53, 54, 55, 56, 57]⟩] w fun e w' => e = .returned (.string ⟨(Lib.trimS hd.data.toList digits.data.toList).toArray⟩) ∧ Below w.heap.size w w' :=
  Tryd.strings_Trim (fun w => by kernel_rfl) (by kernel_rfl) hd ⟨#[48, 49, 50, 51, 52, 53, 54, 55, 56, 57]⟩ w (by omega) (by decide) (by
    intro j b h
    have : ∀ b ∈ [48, 49, 50, 51, 52, 53, 54, 55, 56, (57 : UInt8)], b.toNat < 128 := by decide
    exact this b (List.mem_of_getElem? h))
set_option maxRecDepth 100000 in
set_option maxHeartbeats 4000000 in
theorem size_walk (a0 hd tl : ByteArray) (n : Int) (w : World) (hTab_ : TabsOk w) (hcut : strings_Cut.f a0 ⟨#[32]⟩ = some (hd, tl, true)) (hok : headOk hd = true) (hn : Lib.atoi hd.data.toList = some n) (hr : -9223372036854775808 ≤ n ∧ n ≤ 9223372036854775807) :
    Calls Tryd.prog 41 #[.string a0] w fun e w' => e = .returned (.tuple #[.int .i64 n, .int .i64 ((hd.size : Int) + 1), .bool (decide (n ≤ (a0.size : Int)) && decide ((hd.size : Int) + 1 + 3 ≤ n))]) ∧ Below w.heap.size w w' := by
  simp only [headOk, Bool.and_eq_true, decide_eq_true_eq, bne_iff_ne, beq_iff_eq] at hok
  obtain ⟨⟨⟨h1, h7⟩, h0⟩, ht⟩ := hok
  have HT := Aside0.mk ht
  have HC := Aside0.mk hcut
  have HN := Aside0.mk hn
  have HTAB_ := Aside0.mk hTab_
  have hB := Aside0.mk (Below.refl w.heap.size w)
  have hx := bt_at hd 0
  have q1 : (0 < hd.size) = True := eq_true (by omega)
  have q2 : (0 < (hd.size : Int)) = True := eq_true (by omega)
  have q3 : decide ((hd.size : Int) < 1) = false := decide_eq_false (by omega)
  have q4 : decide (7 < (hd.size : Int)) = false := decide_eq_false (by omega)
  have q5 : (bt hd 0 == 48) = false := beq_eq_false_iff_ne.mpr h0
  have q6 : wrap64 ((hd.size : Int) + 1) = (hd.size : Int) + 1 := by unfold wrap64; omega
  have q7 : wrap64 ((hd.size : Int) + 1 + 3) = (hd.size : Int) + 1 + 3 := by unfold wrap64; omega
  have h18 := Aside0.mk (show hd.size ≤ 18 by omega)
  have H7 := Aside0.mk h7
  clear hcut hn ht hTab_
  have ec : ∀ args w, (callFunc 28 args).run Tryd.prog w = .ok (.enter 28 args) w := enters_of Tryd.func28 (by kernel_rfl) rfl
  have et : ∀ args w, (callFunc 36 args).run Tryd.prog w = .ok (.enter 36 args) w := enters_of Tryd.func36 (by kernel_rfl) rfl
  have ea : ∀ args w, (callFunc 26 args).run Tryd.prog w = .ok (.enter 26 args) w := enters_of Tryd.func26 (by kernel_rfl) rfl
  go_enter Tryd.func41, Tryd.ntmps41
  go_wp2_with (first
    | (go_at_call 28; refine (strings_Cut.calls a0 ⟨#[32]⟩ hd tl true _ HTAB_.out HC.out).mono ?_; rintro e w1 ⟨rfl, hb1⟩)
    | (go_at_call 36; refine (trim_digits hd _ H7.out).mono ?_; rintro e w2 ⟨rfl, hb2⟩; rw [HT.out])
    | (go_at_call 26; refine (Tryd.strconv_Atoi hd n h18.out HN.out _).mono ?_; rintro e w3 ⟨rfl, t, hb3⟩))
  · exfalso
    have h48 : (hd[0]'(by omega)).toNat = 48 := by omega
    have := hx (show 0 < hd.size by omega)
    exact h0 (by rw [← this]; show ((hd[0]'_).toNat : Int) = 48; omega)
  all_goals
    subst hb3
    have hba := below_then (below_then (below_then hB.out (Nat.le_refl _) hb1) hb1.size hb2) (Nat.le_trans hb1.size hb2.size) (Lib.bytesWorld_below w2 5 t)
  · rename_i hle
    have hd1 : decide (n ≤ (a0.size : Int)) = true := decide_eq_true hle
    go_ret3
    exact ⟨by rw [hd1, Bool.true_and]; rfl, hba⟩
  · rename_i hlt
    have hd1 : decide (n ≤ (a0.size : Int)) = false := decide_eq_false (by omega)
    go_ret3
    exact ⟨by rw [hd1, Bool.false_and]; rfl, hba⟩
theorem record_size.calls (a0 : ByteArray) (r1 : Int) (r2 : Int) (r3 : Bool) (w : World) (hTab_ : TabsOk w) (h : record_size.f a0 = some (r1, r2, r3)) :
    Calls Tryd.prog 41 #[.string a0] w fun e w' => e = .returned (.tuple #[.int .i64 r1, .int .i64 r2, .bool r3]) ∧ Below w.heap.size w w' := by
  unfold record_size.f at h
  obtain ⟨⟨hd, tl, ok⟩, hc, h⟩ := Option.bind_eq_some_iff.1 h
  dsimp only at h
  split at h
  · rename_i ho
    split at h
    · rename_i hk
      obtain ⟨n, hn, h⟩ := Option.bind_eq_some_iff.1 h
      split at h
      · rename_i hr
        simp only [Option.some.injEq, Prod.mk.injEq] at h
        obtain ⟨rfl, rfl, rfl⟩ := h
        subst ho
        exact size_walk a0 hd tl n w hTab_ hc hk hn hr
      · cases h
    · cases h
  · cases h
end Go.Proofs.YtehfblmconkdhaaDoor.Q
