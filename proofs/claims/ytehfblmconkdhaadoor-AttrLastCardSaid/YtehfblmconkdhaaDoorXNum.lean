/- attr.digits, attr.whole, attr.seconds: numbers of decimal digits. -/
import Derived.Test.YtehfblmconkdhaaDoorXCut
import Derived.Lib.AtoiTie
import Derived.WalkLawsBesides
namespace Go.Proofs.YtehfblmconkdhaaDoor.Q
open Go.RowKit Go.Proofs.YtehfblmconkdhaaDoorW.PrintWords Go.Proofs.YtehfblmconkdhaaDoorW.PrintLast Go.Proofs.YtehfblmconkdhaaDoorW.PrintMore
set_option linter.unusedVariables false
set_option linter.unusedSimpArgs false
def digits : ByteArray := ⟨#[48, 49, 50, 51, 52, 53, 54, 55, 56, 57]⟩
/-- The two errors that strconv hands on. -/
structure ErrsOk (w : World) : Prop where
  syn : ∃ tp p, w.var? Tryd.prog "strconv.ErrSyntax" = some #[.iface tp p]
  rng : ∃ tp p, w.var? Tryd.prog "strconv.ErrRange" = some #[.iface tp p]
theorem var_keep {w w1 : World} (hb : Below w.heap.size w w1) {n : String} {x : Array Value} (h : w.var? Tryd.prog n = some x) : w1.var? Tryd.prog n = some x := by
  unfold World.var? at h ⊢
  cases hg : Tryd.prog.globalNamed n with
  | none => simp [hg] at h
  | some g =>
    simp only [hg, Option.bind_some] at h ⊢
    have hlt : g < w.heap.size := by
      rcases Nat.lt_or_ge g w.heap.size with h' | h'
      · exact h'
      · rw [Array.getElem?_eq_none h'] at h
        cases h
    rw [hb.block g hlt]
    exact h
theorem ErrsOk.keep {w w1 : World} (h : ErrsOk w) (hb : Below w.heap.size w w1) : ErrsOk w1 where
  syn := by obtain ⟨tp, p, hv⟩ := h.syn; exact ⟨tp, p, var_keep hb hv⟩
  rng := by obtain ⟨tp, p, hv⟩ := h.rng; exact ⟨tp, p, var_keep hb hv⟩
/-! ### the plain words -/
def isDig (b : UInt8) : Bool := digits.data.toList.contains b
theorem isDig_fin : ∀ n : Fin 256, isDig (UInt8.ofNat n.val) = (decide (48 ≤ n.val) && decide (n.val ≤ 57)) := by decide +kernel
theorem isDig_iff (b : UInt8) : isDig b = (decide (48 ≤ b.toNat) && decide (b.toNat ≤ 57)) := by
  have h := isDig_fin ⟨b.toNat, b.toNat_lt⟩
  simpa using h
theorem dropWhile_nil {p : UInt8 → Bool} : ∀ l : List UInt8, l.dropWhile p = [] ↔ l.all p = true
  | [] => by simp
  | b :: l => by
    rw [List.dropWhile_cons]
    cases h : p b
    · simp [h]
    · simp only [if_true, List.all_cons, h, Bool.true_and]
      exact dropWhile_nil l
theorem trim_digits_nil (l : List UInt8) : Lib.trimS l digits.data.toList = [] ↔ l.all isDig = true := by
  unfold Lib.trimS Lib.trimLeftS Lib.trimRightS
  rw [dropWhile_nil]
  show (List.reverse (List.dropWhile isDig l.reverse)).all isDig = true ↔ _
  constructor
  · intro h
    rcases hd : List.dropWhile isDig l.reverse with _ | ⟨b, t⟩
    · rw [dropWhile_nil, List.all_reverse] at hd
      exact hd
    · exfalso
      have h2 := List.head?_dropWhile_not isDig l.reverse
      rw [hd] at h2 h
      simp at h2 h
      rw [h.2] at h2
      cases h2
  · intro h
    have : List.dropWhile isDig l.reverse = [] := by rw [dropWhile_nil, List.all_reverse]; exact h
    rw [this]
    rfl
/-- What one to eighteen digits say. -/
def wholeS (l : List UInt8) : Option Nat := if l ≠ [] ∧ l.all isDig = true ∧ l.length ≤ 18 then Lib.decFrom 0 l else none
theorem decFrom_some : ∀ (l : List UInt8) (acc : Nat), l.all isDig = true → ∃ n, Lib.decFrom acc l = some n
  | [], acc, _ => ⟨acc, rfl⟩
  | b :: l, acc, h => by
    rw [List.all_cons, Bool.and_eq_true, isDig_iff, Bool.and_eq_true, decide_eq_true_eq, decide_eq_true_eq] at h
    simp only [Lib.decFrom, Lib.digitVal, if_pos h.1]
    exact decFrom_some l _ h.2
theorem atoi_digits {l : List UInt8} (h0 : l ≠ []) (h1 : l.all isDig = true) : Lib.atoi l = (Lib.decFrom 0 l).map fun (m : Nat) => (m : Int) := by
  rcases l with _ | ⟨b, r⟩
  · exact absurd rfl h0
  · have hb := h1
    rw [List.all_cons, Bool.and_eq_true, isDig_iff, Bool.and_eq_true, decide_eq_true_eq, decide_eq_true_eq] at hb
    have h45 : ¬ (b == 45) = true := fun e => by rw [beq_iff_eq.1 e] at hb; exact absurd hb.1.1 (by decide)
    have h43 : ¬ (b == 43) = true := fun e => by rw [beq_iff_eq.1 e] at hb; exact absurd hb.1.1 (by decide)
    simp only [Lib.atoi]
    rw [if_neg h45, if_neg h43]
    rfl
/-- How Atoi ends, beside what one to eighteen digits say. -/
theorem wholeS_ok {l : List UInt8} {v : Int} (h : Lib.atoiAll l = .ok v) (h1 : l.all isDig = true) (h2 : l.length ≤ 18) : ∃ m : Nat, wholeS l = some m ∧ v = m := by
  rw [Lib.atoiAll_short l h2] at h
  have h0 : l ≠ [] := by rintro rfl; cases h
  rw [atoi_digits h0 h1] at h
  obtain ⟨m, hm⟩ := decFrom_some l 0 h1
  rw [hm] at h
  refine ⟨m, ?_, ?_⟩
  · unfold wholeS
    rw [if_pos ⟨h0, h1, h2⟩, hm]
  · cases h
    rfl
theorem wholeS_none {l : List UInt8} (h : ¬ (l.all isDig = true ∧ l.length ≤ 18)) : wholeS l = none := by
  unfold wholeS
  rw [if_neg (fun h2 => h h2.2)]
theorem wholeS_bad {l : List UInt8} (h : ∀ v, Lib.atoiAll l ≠ .ok v) : wholeS l = none := by
  unfold wholeS
  split
  · rename_i hc
    obtain ⟨m, hm⟩ := decFrom_some l 0 hc.2.1
    exfalso
    refine h m ?_
    rw [Lib.atoiAll_short l hc.2.2, atoi_digits hc.1 hc.2.1, hm]
    rfl
  · rfl
/-! ### the walks -/
theorem trim_any (s : ByteArray) (w : World) (hs : s.size ≤ 9223372036854775807) :
    Calls Tryd.prog 36 #[.string s, .string ⟨#[48, 49, 50, 51, 52, 53, 54, 55, 56, 57]⟩] w fun e w' => e = .returned (.string ⟨(Lib.trimS s.data.toList digits.data.toList).toArray⟩) ∧ Below w.heap.size w w' :=
  Tryd.strings_Trim (fun w => by kernel_rfl) (by kernel_rfl) s ⟨#[48, 49, 50, 51, 52, 53, 54, 55, 56, 57]⟩ w hs (by decide) (by
    intro j b h
    have : ∀ b ∈ [48, 49, 50, 51, 52, 53, 54, 55, 56, (57 : UInt8)], b.toNat < 128 := by decide
    exact this b (List.mem_of_getElem? h))
def allDig (s : ByteArray) : Bool := s.data.toList.all isDig
theorem trim_eq (s : ByteArray) : ((⟨(Lib.trimS s.data.toList digits.data.toList).toArray⟩ : ByteArray).toList == []) = allDig s := by
  rw [Lib.toList_data, Bool.eq_iff_iff, beq_iff_eq]
  exact trim_digits_nil s.data.toList
set_option maxRecDepth 100000 in
theorem attr_digits.walk (s : ByteArray) (w : World) (hs : s.size ≤ 9223372036854775807) :
    Calls Tryd.prog 27 #[.string s] w fun e w' => e = .returned (.bool (allDig s)) ∧ Below w.heap.size w w' := by
  have ht := trim_eq s
  generalize hq : (⟨(Lib.trimS s.data.toList digits.data.toList).toArray⟩ : ByteArray) = q at ht
  have et : ∀ args w, (callFunc 36 args).run Tryd.prog w = .ok (.enter 36 args) w := enters_of Tryd.func36 (by kernel_rfl) rfl
  go_enter Tryd.func27, Tryd.ntmps27
  go_wp2_with (go_at_call 36; refine (trim_any s _ hs).mono ?_; rintro e w2 ⟨rfl, hb2⟩; rw [hq])
  go_ret
  exact ⟨by rw [← ht]; rfl, hb2⟩
set_option maxRecDepth 100000 in
set_option maxHeartbeats 1000000 in
theorem attr_whole.walk (s : ByteArray) (w : World) (hE : ErrsOk w) (hs : s.size ≤ 281474976710656) :
    Calls Tryd.prog 18 #[.string s] w fun e w' => ∃ n : Int, e = .returned (.tuple #[.int .i64 n, .bool (wholeS s.data.toList).isSome]) ∧ (∀ m, wholeS s.data.toList = some m → n = (m : Int)) ∧ Below w.heap.size w w' := by
  have ea : ∀ args w, (callFunc 26 args).run Tryd.prog w = .ok (.enter 26 args) w := enters_of Tryd.func26 (by kernel_rfl) rfl
  have ed : ∀ args w, (callFunc 27 args).run Tryd.prog w = .ok (.enter 27 args) w := enters_of Tryd.func27 (by kernel_rfl) rfl
  have HS := Aside0.mk hs
  rcases hv : Lib.atoiAll s.data.toList with v | _ | _
  · have cA : ∀ W, Calls Tryd.prog 26 #[.string s] W fun e w' => e = .returned (.tuple #[.int .i64 v, .nilIface]) ∧ Below W.heap.size W w' := fun W => (Tryd.strconv_Atoi_ok s (by omega) v hv W).mono (by
      rintro e w' ⟨rfl, (rfl | ⟨t, rfl⟩)⟩
      · exact ⟨rfl, Below.refl _ _⟩
      · exact ⟨rfl, Lib.bytesWorld_below _ _ _⟩)
    have hn : ((wholeS s.data.toList).isSome = (allDig s && decide ((s.size : Int) ≤ 18))) ∧ (∀ m, wholeS s.data.toList = some m → v = (m : Int)) := by
      by_cases hc : s.data.toList.all isDig = true ∧ s.data.toList.length ≤ 18
      · obtain ⟨m, hm, rfl⟩ := wholeS_ok hv hc.1 hc.2
        rw [hm]
        refine ⟨?_, fun m' h => by cases h; rfl⟩
        unfold allDig
        rw [hc.1, decide_eq_true (by rw [Lib.size_eq]; omega)]
        rfl
      · rw [wholeS_none hc]
        refine ⟨?_, fun m h => by cases h⟩
        unfold allDig
        rcases h : s.data.toList.all isDig
        · rfl
        · rw [decide_eq_false (by rw [Lib.size_eq]; intro h2; exact hc ⟨h, by omega⟩)]
          rfl
    have HN := Aside0.mk hn
    clear hn hv hs
    rcases hd : allDig s
    · have cD : ∀ W, Calls Tryd.prog 27 #[.string s] W fun e w' => e = .returned (.bool false) ∧ Below W.heap.size W w' := fun W => by rw [← hd]; exact attr_digits.walk s W (by have := HS.out; omega)
      go_enter Tryd.func18, Tryd.ntmps18
      go_wp2_with (first
        | (go_at_call 26; refine (cA _).mono ?_; rintro e w1 ⟨rfl, hb1⟩)
        | (go_at_call 27; refine (cD _).mono ?_; rintro e w2 ⟨rfl, hb2⟩))
      go_ret2
      refine ⟨v, ?_, HN.out.2, below_then hb1 hb1.size hb2⟩
      rw [HN.out.1, hd]
      rfl
    · have cD : ∀ W, Calls Tryd.prog 27 #[.string s] W fun e w' => e = .returned (.bool true) ∧ Below W.heap.size W w' := fun W => by rw [← hd]; exact attr_digits.walk s W (by have := HS.out; omega)
      go_enter Tryd.func18, Tryd.ntmps18
      go_wp2_with (first
        | (go_at_call 26; refine (cA _).mono ?_; rintro e w1 ⟨rfl, hb1⟩)
        | (go_at_call 27; refine (cD _).mono ?_; rintro e w2 ⟨rfl, hb2⟩))
      go_ret2
      refine ⟨v, ?_, HN.out.2, below_then hb1 hb1.size hb2⟩
      rw [HN.out.1, hd]
      rfl
  all_goals
    have hN : wholeS s.data.toList = none := wholeS_bad (fun v h => by rw [hv] at h; cases h)
    rw [hN]
  · obtain ⟨tp, p, hvar⟩ := hE.syn
    have cA := Go.Proofs.Any.strconv_Atoi_syntax_var Tryd.laysC172 s hs hv tp p w hvar
    clear hv hs hvar hN
    go_enter Tryd.func18, Tryd.ntmps18
    go_wp2_with (go_at_call 26; refine cA.mono ?_; rintro e w1 ⟨N, rfl, hN, hc, hb1⟩; clear hc)
    go_ret2
    exact ⟨_, rfl, (fun m h => by cases h), hb1⟩
  · obtain ⟨tp, p, hvar⟩ := hE.rng
    have cA := Tryd.strconv_Atoi_range_var s hs hv tp p w hvar
    generalize Lib.atoiSat s.data.toList = z at cA
    clear hv hs hvar hN
    go_enter Tryd.func18, Tryd.ntmps18
    go_wp2_with (go_at_call 26; refine cA.mono ?_; rintro e w1 ⟨N, rfl, hN, hc, hb1⟩; clear hc)
    go_ret2
    exact ⟨_, rfl, (fun m h => by cases h), hb1⟩
/-- A time's whole seconds: '.' and digits behind them, if there is a '.'. -/
def secondsS (l : List UInt8) : Option Nat := if (Lib.cut l [46]).2.1.all isDig = true then wholeS (Lib.cut l [46]).1 else none
theorem cut_size (l sep : List UInt8) : (Lib.cut l sep).1.length ≤ l.length ∧ (Lib.cut l sep).2.1.length ≤ l.length := by
  unfold Lib.cut
  split
  · simp
    omega
  · simp
set_option maxRecDepth 100000 in
set_option maxHeartbeats 1000000 in
theorem attr_seconds.walk (s : ByteArray) (w : World) (hE : ErrsOk w) (hs : s.size ≤ 281474976710656) :
    Calls Tryd.prog 19 #[.string s] w fun e w' => ∃ n : Int, e = .returned (.tuple #[.int .i64 n, .bool (secondsS s.data.toList).isSome]) ∧ (∀ m, secondsS s.data.toList = some m → n = (m : Int)) ∧ Below w.heap.size w w' := by
  have ec : ∀ args w, (callFunc 28 args).run Tryd.prog w = .ok (.enter 28 args) w := enters_of Tryd.func28 (by kernel_rfl) rfl
  have ew : ∀ args w, (callFunc 18 args).run Tryd.prog w = .ok (.enter 18 args) w := enters_of Tryd.func18 (by kernel_rfl) rfl
  have ed : ∀ args w, (callFunc 27 args).run Tryd.prog w = .ok (.enter 27 args) w := enters_of Tryd.func27 (by kernel_rfl) rfl
  have HE := Aside0.mk hE
  have hB := Aside0.mk (Below.refl w.heap.size w)
  have hz := cut_size s.data.toList [46]
  have cC := fun W => cut_one s 46 W (by omega)
  unfold cutA cutZ cutF at cC
  have hS : secondsS s.data.toList = if allDig ⟨(Lib.cut s.data.toList [46]).2.1.toArray⟩ = true then wholeS (⟨(Lib.cut s.data.toList [46]).1.toArray⟩ : ByteArray).data.toList else none := rfl
  rw [hS]
  have h1 : (⟨(Lib.cut s.data.toList [46]).1.toArray⟩ : ByteArray).size ≤ s.size := by rw [Lib.size_eq, Lib.size_eq s]; exact hz.1
  have h2 : (⟨(Lib.cut s.data.toList [46]).2.1.toArray⟩ : ByteArray).size ≤ s.size := by rw [Lib.size_eq, Lib.size_eq s]; exact hz.2
  clear hS hz
  generalize (⟨(Lib.cut s.data.toList [46]).1.toArray⟩ : ByteArray) = a at cC h1 ⊢
  generalize (⟨(Lib.cut s.data.toList [46]).2.1.toArray⟩ : ByteArray) = b at cC h2 ⊢
  generalize (Lib.cut s.data.toList [46]).2.2 = o at cC
  have H1 := Aside0.mk (show a.size ≤ 281474976710656 by omega)
  have H2 := Aside0.mk (show b.size ≤ 9223372036854775807 by omega)
  generalize hr : (if allDig b = true then wholeS a.data.toList else none) = r
  clear h1 h2 hs hE
  rcases hd : allDig b
  all_goals
    have cD := fun W => attr_digits.walk b W H2.out
    rw [hd] at cD
    rcases hw : wholeS a.data.toList with _ | m
    all_goals
      have cW := fun W (hW : ErrsOk W) => attr_whole.walk a W hW H1.out
      rw [hw] at cW
      simp only [Option.isSome_none, Option.isSome_some] at cW
      rw [hd, hw] at hr
      have HR := Aside0.mk hr
      clear hd hw hr
      go_enter Tryd.func19, Tryd.ntmps19
      go_wp2_with (first
        | (go_at_call 28; refine (cC _).mono ?_; rintro e w1 ⟨rfl, hb1⟩)
        | (go_at_call 18; refine (cW _ (HE.out.keep hb1)).mono ?_; rintro e w2 ⟨n, rfl, hn, hb2⟩; have HN := Aside0.mk hn; clear hn)
        | (go_at_call 27; refine (cD _).mono ?_; rintro e w3 ⟨rfl, hb3⟩))
      go_ret2
  all_goals
    have hr := HR.out
    simp only [if_true, Bool.false_eq_true, if_false] at hr
    subst hr
  · exact ⟨n, rfl, (fun m h => by cases h), below_then hb1 hb1.size hb2⟩
  · exact ⟨n, rfl, (fun m h => by cases h), below_then (below_then hb1 hb1.size hb2) (Nat.le_trans hb1.size hb2.size) hb3⟩
  · exact ⟨n, rfl, (fun m h => by cases h), below_then hb1 hb1.size hb2⟩
  · exact ⟨n, rfl, HN.out, below_then (below_then hb1 hb1.size hb2) (Nat.le_trans hb1.size hb2.size) hb3⟩
end Go.Proofs.YtehfblmconkdhaaDoor.Q
