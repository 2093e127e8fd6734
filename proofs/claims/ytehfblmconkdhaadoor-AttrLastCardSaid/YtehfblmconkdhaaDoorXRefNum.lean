/- ref.Whole and ref.Seconds, told by wholeS and secondsS. -/
import Derived.Test.YtehfblmconkdhaaDoorQ9
import Derived.Test.YtehfblmconkdhaaDoorQ18
import Derived.Test.YtehfblmconkdhaaDoorXNum
import Derived.Lib.IndexLaws
namespace Go.Proofs.YtehfblmconkdhaaDoor.Q
open Go.RowKit Go.Proofs.YtehfblmconkdhaaDoorW.PrintWords Go.Proofs.YtehfblmconkdhaaDoorW.PrintLast Go.Proofs.YtehfblmconkdhaaDoorW.PrintMore
theorem bt_at_list (s : ByteArray) (i : Nat) (h : i < s.data.toList.length) : bt s (i : Int) = ((s.data.toList[i]).toNat : Int) := by
  have h2 : i < s.size := by rw [Lib.size_eq]; exact h
  unfold bt
  rw [dif_pos (by simpa using h2)]
  simp
  rfl
theorem wrap_small (x : Int) (h0 : 0 ≤ x) (h1 : x ≤ 9223372036854775807) : wrap64 x = x := by
  unfold wrap64
  omega
theorem step_num (acc b P : Nat) (ha : acc < P) (hp : P ≤ 100000000000000000) (h1 : 48 ≤ b) (h2 : b ≤ 57) : wrap64 ((wrap64 ((acc : Int) * 10)) + (((b : Int) - 48) % 256)) = ((acc * 10 + (b - 48) : Nat) : Int) := by
  have e0 : ((b : Int) - 48) % 256 = (b : Int) - 48 := Int.emod_eq_of_lt (by omega) (by omega)
  rw [e0, wrap_small ((acc : Int) * 10) (by omega) (by omega), wrap_small _ (by omega) (by omega)]
  omega
/-- The loop: digits to the end tell what they spell; a byte that is none ends it. -/
theorem whole_round (s : ByteArray) (hl : s.data.toList.length ≤ 18) : ∀ (r i acc k : Nat), i + r = s.data.toList.length → acc < 10 ^ i → r + 1 ≤ k →
    bindleref01_Whole.l0 k s (acc : Int) (i : Int) = some (match (if (s.data.toList.drop i).all isDig = true then Lib.decFrom acc (s.data.toList.drop i) else none) with
      | some n => ((n : Int), true)
      | none => (0, false))
  | 0, i, acc, 0, _, _, hk => absurd hk (by omega)
  | 0, i, acc, k + 1, hi, ha, hk => by
    rw [List.drop_of_length_le (by omega)]
    unfold bindleref01_Whole.l0
    rw [if_neg (by rw [Lib.size_eq]; omega)]
    rfl
  | r + 1, i, acc, 0, _, _, hk => absurd hk (by omega)
  | r + 1, i, acc, k + 1, hi, ha, hk => by
    have hlt : i < s.data.toList.length := by omega
    have hp : (10 : Nat) ^ i ≤ 10 ^ 17 := Nat.pow_le_pow_right (by decide) (by omega)
    have hp2 : (10 : Nat) ^ 17 = 100000000000000000 := by decide
    rw [List.drop_eq_getElem_cons hlt, List.all_cons]
    unfold bindleref01_Whole.l0
    rw [if_pos (by rw [Lib.size_eq]; omega), if_pos (by omega), bt_at_list s i hlt]
    have hd := isDig_iff (s.data.toList[i])
    by_cases h1 : (s.data.toList[i]).toNat < 48
    · rw [if_pos (by omega), hd, decide_eq_false (by omega)]
      rfl
    · by_cases h2 : 57 < (s.data.toList[i]).toNat
      · rw [if_neg (by omega), if_pos (by omega), hd, decide_eq_false (p := (s.data.toList[i]).toNat ≤ 57) (by omega), Bool.and_false]
        rfl
      · rw [if_neg (by omega), if_neg (by omega), hd, decide_eq_true (by omega), decide_eq_true (by omega)]
        have e1 := step_num acc (s.data.toList[i]).toNat (10 ^ i) ha (by omega) (by omega) (by omega)
        have e2 : wrap64 ((i : Int) + 1) = ((i + 1 : Nat) : Int) := wrap_small _ (by omega) (by omega)
        have e3 : acc * 10 + ((s.data.toList[i]).toNat - 48) < 10 ^ (i + 1) := by
          rw [Nat.pow_succ]
          omega
        clear hp hp2
        rw [e1, e2, whole_round s hl r (i + 1) _ k (by omega) e3 (by omega)]
        simp only [Bool.true_and, Bool.and_self, Lib.decFrom, Lib.digitVal]
        rw [if_pos (c := 48 ≤ (s.data.toList[i]).toNat ∧ (s.data.toList[i]).toNat ≤ 57) (by omega)]
def numR (o : Option Nat) : Int × Bool := match o with
  | some n => ((n : Int), true)
  | none => (0, false)
theorem whole_is (s : ByteArray) (k : Nat) (hk : 22 ≤ k) : bindleref01_Whole.f k s = some (numR (wholeS s.data.toList)) := by
  obtain ⟨k, rfl⟩ : ∃ k', k = k' + 1 := ⟨k - 1, by omega⟩
  have hsz := Lib.size_eq s
  unfold bindleref01_Whole.f
  by_cases h0 : s.data.toList.length = 0
  · rw [if_pos (by omega)]
    simp only [bindleref01_Whole.j0]
    rw [if_pos trivial]
    have : wholeS s.data.toList = none := by
      unfold wholeS
      rw [if_neg]
      intro h
      exact h.1 (List.eq_nil_of_length_eq_zero h0)
    rw [this]
    rfl
  · rw [if_neg (by omega)]
    simp only [bindleref01_Whole.j0]
    by_cases h18 : s.data.toList.length ≤ 18
    · rw [if_neg (by simp only [decide_eq_true_eq]; omega)]
      have h := whole_round s h18 s.data.toList.length 0 0 k (by omega) (by decide) (by omega)
      rw [List.drop_zero] at h
      rw [show ((0 : Nat) : Int) = 0 from rfl] at h
      rw [h]
      unfold wholeS numR
      by_cases ha : s.data.toList.all isDig = true
      · rw [if_pos ha, if_pos ⟨fun e => h0 (by rw [e]; rfl), ha, h18⟩]
      · rw [if_neg ha, if_neg (fun h => ha h.2.1)]
    · rw [if_pos (by simp only [decide_eq_true_eq]; omega)]
      have : wholeS s.data.toList = none := by
        unfold wholeS
        rw [if_neg (fun h => h18 h.2.2)]
      rw [this]
      rfl
/-! ### ref.Seconds -/
theorem sec_tail (s : ByteArray) (o : Nat) (ho : o ≤ s.data.toList.length) (hs : s.data.toList.length ≤ 9223372036854775806) : ∀ (r j k : Nat), j + r = s.data.toList.length → r + 23 ≤ k →
    bindleref01_Seconds.l1 k s (o : Int) (j : Int) = some (numR (if (s.data.toList.drop j).all isDig = true then wholeS (s.data.toList.take o) else none))
  | r, j, 0, _, hk => absurd hk (by omega)
  | 0, j, k + 1, hj, hk => by
    rw [List.drop_of_length_le (by omega)]
    unfold bindleref01_Seconds.l1
    have hsz := Lib.size_eq s
    rw [if_neg (by omega), if_pos (by omega), if_pos (by omega), Int.toNat_natCast, whole_is _ k (by omega), Option.bind_some]
    have : (s.extract 0 o).data.toList = s.data.toList.take o := by rw [← Lib.toList_data, Lib.extract_toList]; simp
    rw [this]
    rfl
  | r + 1, j, k + 1, hj, hk => by
    have hlt : j < s.data.toList.length := by omega
    have hsz := Lib.size_eq s
    rw [List.drop_eq_getElem_cons hlt, List.all_cons]
    unfold bindleref01_Seconds.l1
    rw [if_pos (by omega), if_pos (by omega), bt_at_list s j hlt]
    have hd := isDig_iff (s.data.toList[j])
    by_cases h1 : (s.data.toList[j]).toNat < 48
    · rw [if_pos (by omega), hd, decide_eq_false (by omega)]
      rfl
    · by_cases h2 : 57 < (s.data.toList[j]).toNat
      · rw [if_neg (by omega), if_pos (by omega), hd, decide_eq_false (p := (s.data.toList[j]).toNat ≤ 57) (by omega), Bool.and_false]
        rfl
      · rw [if_neg (by omega), if_neg (by omega), hd, decide_eq_true (by omega), decide_eq_true (by omega)]
        have e2 : wrap64 ((j : Int) + 1) = ((j + 1 : Nat) : Int) := by unfold wrap64; omega
        rw [e2, sec_tail s o ho hs r (j + 1) k (by omega) (by omega)]
        simp
theorem sec_head (s : ByteArray) (hs : s.data.toList.length ≤ 9223372036854775806) : ∀ (r i k : Nat), i + r = s.data.toList.length → s.data.toList.length + 30 ≤ k + i → (∀ j, j < i → s.data.toList[j]? ≠ some 46) →
    bindleref01_Seconds.l0 k s (i : Int) = some (numR (secondsS s.data.toList))
  | r, i, 0, _, hk, _ => absurd hk (by omega)
  | 0, i, k + 1, hi, hk, hno => by
    have hsz := Lib.size_eq s
    unfold bindleref01_Seconds.l0
    rw [if_neg (by omega), whole_is _ k (by omega), Option.bind_some]
    have hix : Lib.indexByte s.data.toList 46 = -1 := by
      by_cases h : Lib.indexByte s.data.toList 46 = -1
      · exact h
      · exfalso
        have hge := Lib.indexByte_ge s.data.toList 46
        obtain ⟨o, ho⟩ : ∃ o : Nat, Lib.indexByte s.data.toList 46 = o := ⟨_, (Int.toNat_of_nonneg (by omega)).symm⟩
        have hat := (Lib.indexByte_some ho).1
        have hlt := (List.getElem?_eq_some_iff.1 hat).1
        exact hno o (by omega) hat
    have hcut : Lib.cut s.data.toList [46] = (s.data.toList, [], false) := by
      unfold Lib.cut
      rw [Lib.index_one, hix, if_neg (by omega)]
    have : secondsS s.data.toList = wholeS s.data.toList := by
      unfold secondsS
      rw [hcut]
      rfl
    rw [this]
  | r + 1, i, k + 1, hi, hk, hno => by
    have hlt : i < s.data.toList.length := by omega
    have hsz := Lib.size_eq s
    unfold bindleref01_Seconds.l0
    rw [if_pos (by omega), if_pos (by omega), bt_at_list s i hlt]
    have e2 : wrap64 ((i : Int) + 1) = ((i + 1 : Nat) : Int) := by unfold wrap64; omega
    by_cases h : s.data.toList[i] = 46
    · rw [if_pos (by rw [h]; rfl), e2, sec_tail s i (by omega) hs r (i + 1) k (by omega) (by omega)]
      have hix : Lib.indexByte s.data.toList 46 = i := by
        have hge := Lib.indexByte_ge s.data.toList 46
        by_cases h1 : Lib.indexByte s.data.toList 46 = -1
        · exact absurd (by rw [List.getElem?_eq_getElem hlt, h]) (Lib.indexByte_none h1 i)
        · obtain ⟨o, ho⟩ : ∃ o : Nat, Lib.indexByte s.data.toList 46 = o := ⟨_, (Int.toNat_of_nonneg (by omega)).symm⟩
          obtain ⟨hat, hbe⟩ := Lib.indexByte_some ho
          have : o = i := by
            rcases Nat.lt_trichotomy o i with h2 | h2 | h2
            · exact absurd hat (hno o h2)
            · exact h2
            · exact absurd (by rw [List.getElem?_eq_getElem hlt, h]) (hbe i h2)
          rw [ho, this]
      have hcut : Lib.cut s.data.toList [46] = (s.data.toList.take i, s.data.toList.drop (i + 1), true) := by
        unfold Lib.cut
        rw [Lib.index_one, hix, if_pos (by omega), Int.toNat_natCast]
        rfl
      unfold secondsS
      rw [hcut]
    · rw [if_neg (fun e => h (by
        have : (s.data.toList[i]).toNat = 46 := by omega
        exact UInt8.toNat_inj.1 (by rw [this]; rfl))), e2]
      exact sec_head s hs r (i + 1) k (by omega) (by omega) (fun j hj => by
        rcases Nat.lt_or_ge j i with h2 | h2
        · exact hno j h2
        · have : j = i := by omega
          subst this
          rw [List.getElem?_eq_getElem hlt]
          exact fun e => h (Option.some.inj e))
theorem seconds_is (s : ByteArray) (k : Nat) (hs : s.data.toList.length ≤ 9223372036854775806) (hk : s.data.toList.length + 30 ≤ k) : bindleref01_Seconds.f k s = some (numR (secondsS s.data.toList)) := by
  unfold bindleref01_Seconds.f
  exact sec_head s hs s.data.toList.length 0 k (by omega) (by omega) (fun j hj => absurd hj (Nat.not_lt_zero j))
end Go.Proofs.YtehfblmconkdhaaDoor.Q
