/- The plain law of RecordSizes: what the printed functions compute answers true. No machine in sight. -/
import Derived.Test.YtehfblmconkdhaaDoorQ11
import Derived.Lib.IndexBytes
import Derived.Lib.ValidLaws
import Derived.Lib.Atoi
namespace Go.Proofs.YtehfblmconkdhaaDoor.Q
open Go.RowKit Go.Proofs.YtehfblmconkdhaaDoorW.PrintWords Go.Proofs.YtehfblmconkdhaaDoorW.PrintLast Go.Proofs.YtehfblmconkdhaaDoorW.PrintMore
open Go.Lib (itoa decDigits nDigits decFrom digitVal)
theorem w64 {n : Int} (h : -9223372036854775808 ≤ n ∧ n ≤ 9223372036854775807) : wrap64 n = n := by unfold wrap64; omega
theorem bt_list (s : ByteArray) (i : Nat) (h : i < s.data.toList.length) : bt s (i : Int) = ((s.data.toList[i]).toNat : Int) := by
  have h2 : i < s.size := by rw [Lib.size_eq]; exact h
  unfold bt
  rw [dif_pos (by simpa using h2)]
  simp
  rfl
/-! ### numerals -/
theorem decFrom_append : ∀ (x y : List UInt8) (acc : Nat), decFrom acc (x ++ y) = (decFrom acc x).bind fun a => decFrom a y
  | [], y, acc => rfl
  | b :: x, y, acc => by
    simp only [List.cons_append, decFrom]
    cases digitVal b with
    | none => rfl
    | some d => exact decFrom_append x y _
theorem digit_byte {d : Nat} (h : d < 10) : (UInt8.ofNat (48 + d)).toNat = 48 + d := by
  rw [UInt8.toNat_ofNat']
  omega
theorem digitVal_byte {d : Nat} (h : d < 10) : digitVal (UInt8.ofNat (48 + d)) = some d := by
  unfold digitVal
  rw [digit_byte h, if_pos (by omega)]
  simp
theorem decFrom_digits (u : Nat) : decFrom 0 (decDigits u) = some u := by
  induction u using Nat.strongRecOn with
  | _ u ih =>
    rw [decDigits]
    split
    · rename_i h
      simp only [decFrom, digitVal_byte h]
      simp
    · rename_i h
      rw [decFrom_append, ih (u / 10) (by omega), Option.bind_some]
      simp only [decFrom, digitVal_byte (show u % 10 < 10 by omega), Option.some.injEq]
      omega
theorem digits_range (u : Nat) : ∀ b ∈ decDigits u, 48 ≤ b.toNat ∧ b.toNat ≤ 57 := by
  induction u using Nat.strongRecOn with
  | _ u ih =>
    rw [decDigits]
    split
    · rename_i h
      intro b hb
      rw [List.mem_singleton.1 hb, digit_byte h]
      omega
    · rename_i h
      intro b hb
      rcases List.mem_append.1 hb with hb | hb
      · exact ih (u / 10) (by omega) b hb
      · rw [List.mem_singleton.1 hb, digit_byte (show u % 10 < 10 by omega)]
        omega
theorem digits_head (u : Nat) (hu : 1 ≤ u) : ∃ b r, decDigits u = b :: r ∧ b.toNat ≠ 48 := by
  induction u using Nat.strongRecOn with
  | _ u ih =>
    rw [decDigits]
    split
    · rename_i h
      exact ⟨_, [], rfl, by rw [digit_byte h]; omega⟩
    · rename_i h
      obtain ⟨b, r, hr, hb⟩ := ih (u / 10) (by omega) (by omega)
      rw [hr]
      exact ⟨b, r ++ _, rfl, hb⟩
theorem itoa_nat (n : Nat) : itoa (n : Int) = decDigits n := by
  unfold itoa
  rw [if_neg (by omega)]
  simp
/-! ### ref.Whole -/
theorem whole_loop (s : ByteArray) (hl : s.data.toList.length ≤ 18) : ∀ (r i acc n k : Nat), i + r = s.data.toList.length → decFrom acc (s.data.toList.drop i) = some n → acc < 10 ^ i → r + 1 ≤ k → bindleref01_Whole.l0 k s (acc : Int) (i : Int) = some ((n : Int), true)
  | 0, i, acc, n, 0, _, _, _, hk => absurd hk (by omega)
  | 0, i, acc, n, k + 1, hi, hd, ha, hk => by
    rw [List.drop_of_length_le (by omega)] at hd
    cases hd
    unfold bindleref01_Whole.l0
    rw [if_neg (by rw [Lib.size_eq]; omega)]
  | r + 1, i, acc, n, 0, _, _, _, hk => absurd hk (by omega)
  | r + 1, i, acc, n, k + 1, hi, hd, ha, hk => by
    have hlt : i < s.data.toList.length := by omega
    rw [List.drop_eq_getElem_cons hlt] at hd
    simp only [decFrom] at hd
    split at hd
    · rename_i d hdv
      obtain ⟨h1, h2, rfl⟩ := Lib.digitVal_eq hdv
      have hp : (10 : Nat) ^ i ≤ 10 ^ 17 := Nat.pow_le_pow_right (by decide) (by omega)
      have hp2 : (10 : Nat) ^ 17 = 100000000000000000 := by decide
      unfold bindleref01_Whole.l0
      rw [if_pos (by rw [Lib.size_eq]; omega), if_pos (by omega), bt_list s i hlt, if_neg (by omega), if_neg (by omega)]
      have e1 : wrap64 ((wrap64 ((acc : Int) * 10)) + ((((s.data.toList[i]).toNat : Int) - 48) % 256)) = ((acc * 10 + ((s.data.toList[i]).toNat - 48) : Nat) : Int) := by
        rw [w64 (n := (acc : Int) * 10) (by omega), w64 (by omega)]
        omega
      have e2 : wrap64 ((i : Int) + 1) = ((i + 1 : Nat) : Int) := by
        rw [w64 (by omega)]
        omega
      rw [e1, e2]
      exact whole_loop s hl r (i + 1) _ n k (by omega) hd (by rw [Nat.pow_succ]; omega) (by omega)
    · cases hd
theorem whole_digits (D : ByteArray) (n k : Nat) (h : D.data.toList = decDigits n) (hn : nDigits n ≤ 18) (hk : 22 ≤ k) : bindleref01_Whole.f k D = some ((n : Int), true) := by
  have hlen : D.data.toList.length = nDigits n := by rw [h, Lib.decDigits_length]
  have hpos := Lib.nDigits_pos n
  obtain ⟨k, rfl⟩ : ∃ k', k = k' + 1 := ⟨k - 1, by omega⟩
  unfold bindleref01_Whole.f
  rw [if_neg (by rw [Lib.size_eq]; omega)]
  simp only [bindleref01_Whole.j0]
  rw [if_neg (by simp only [decide_eq_true_eq]; rw [Lib.size_eq]; omega)]
  exact whole_loop D (by omega) _ 0 0 n k (by rw [Nat.zero_add]) (by rw [List.drop_zero, h]; exact decFrom_digits n) (by decide) (by omega)
/-! ### record.Line -/
theorem itoa_some (n : Nat) (h : n ≤ 9223372036854775807) : strconv_Itoa.f (n : Int) = some ⟨(decDigits n).toArray⟩ := by
  unfold strconv_Itoa.f
  rw [if_pos (by omega), itoa_nat]
theorem mk_size (l : List UInt8) : (⟨l.toArray⟩ : ByteArray).size = l.length := by rw [Lib.size_eq]
theorem line_loop (body : ByteArray) (m : Nat) (hL : body.size ≤ 1000000) (hm : m ≤ 1000000) (h1 : ∀ n, body.size ≤ n → n < m → n < nDigits n + body.size) (h2 : nDigits m + body.size ≤ m) (hd : ∀ n, n ≤ m → nDigits n ≤ 18) : ∀ (r n k : Nat), n + r = m → body.size ≤ n → r + 1 ≤ k → record_Line.l0 k body (n : Int) = some (⟨(decDigits m).toArray⟩ ++ body, true)
  | r, n, 0, _, _, hk => absurd hk (by omega)
  | 0, n, k + 1, hn, hb, hk => by
    have e : n = m := by omega
    subst e
    have hd1 := hd n (Nat.le_refl _)
    unfold record_Line.l0
    rw [itoa_some n (by omega), Option.bind_some, mk_size, Lib.decDigits_length, w64 (by omega), if_neg (by omega), Option.bind_some, if_pos (by rw [mk_size, Lib.decDigits_length]; omega)]
  | r + 1, n, k + 1, hn, hb, hk => by
    have h3 := h1 n hb (by omega)
    have hd1 := hd n (by omega)
    unfold record_Line.l0
    rw [itoa_some n (by omega), Option.bind_some, mk_size, Lib.decDigits_length, w64 (by omega), if_pos (by omega), w64 (by omega)]
    exact line_loop body m hL hm h1 h2 hd r (n + 1) k (by omega) (by omega) (by omega)
theorem digits_at {k n : Nat} (h1 : 10 ^ k ≤ n) (h2 : n < 10 ^ (k + 1)) : nDigits n = k + 1 := Lib.nDigits_unique k n h1 h2
theorem digits_cases (n : Nat) (h : n < 100000) : (n < 10 ∧ nDigits n = 1) ∨ (10 ≤ n ∧ n < 100 ∧ nDigits n = 2) ∨ (100 ≤ n ∧ n < 1000 ∧ nDigits n = 3) ∨ (1000 ≤ n ∧ n < 10000 ∧ nDigits n = 4) ∨ (10000 ≤ n ∧ nDigits n = 5) := by
  rcases Nat.lt_or_ge n 10 with h1 | h1
  · exact .inl ⟨h1, Lib.nDigits_small h1⟩
  rcases Nat.lt_or_ge n 100 with h2 | h2
  · exact .inr (.inl ⟨h1, h2, digits_at (k := 1) h1 h2⟩)
  rcases Nat.lt_or_ge n 1000 with h3 | h3
  · exact .inr (.inr (.inl ⟨h2, h3, digits_at (k := 2) h2 h3⟩))
  rcases Nat.lt_or_ge n 10000 with h4 | h4
  · exact .inr (.inr (.inr (.inl ⟨h3, h4, digits_at (k := 3) h3 h4⟩)))
  · exact .inr (.inr (.inr (.inr ⟨h4, digits_at (k := 4) h4 h⟩)))
/-- The length that a line of L bytes behind its number has. -/
theorem length_exists (L : Nat) (h0 : 4 ≤ L) (h : L ≤ 30000) : ∃ m, m ≤ L + 5 ∧ L ≤ m ∧ nDigits m + L = m ∧ (∀ n, L ≤ n → n < m → n < nDigits n + L) := by
  have key : ∀ d, 1 ≤ d → d ≤ 5 → nDigits (L + d) = d → (∀ n, L ≤ n → n < L + d → n < nDigits n + L) → ∃ m, m ≤ L + 5 ∧ L ≤ m ∧ nDigits m + L = m ∧ (∀ n, L ≤ n → n < m → n < nDigits n + L) :=
    fun d h1 h2 h3 h4 => ⟨L + d, by omega, by omega, by omega, h4⟩
  have hr : L ≤ 8 ∨ (9 ≤ L ∧ L ≤ 97) ∨ (98 ≤ L ∧ L ≤ 996) ∨ (997 ≤ L ∧ L ≤ 9995) ∨ 9996 ≤ L := by omega
  rcases hr with hr | hr | hr | hr | hr
  · refine key 1 (by omega) (by omega) ?_ ?_
    · rcases digits_cases (L + 1) (by omega) with h | h | h | h | h <;> omega
    · intro n h1 h2
      rcases digits_cases n (by omega) with h | h | h | h | h <;> omega
  · refine key 2 (by omega) (by omega) ?_ ?_
    · rcases digits_cases (L + 2) (by omega) with h | h | h | h | h <;> omega
    · intro n h1 h2
      rcases digits_cases n (by omega) with h | h | h | h | h <;> omega
  · refine key 3 (by omega) (by omega) ?_ ?_
    · rcases digits_cases (L + 3) (by omega) with h | h | h | h | h <;> omega
    · intro n h1 h2
      rcases digits_cases n (by omega) with h | h | h | h | h <;> omega
  · refine key 4 (by omega) (by omega) ?_ ?_
    · rcases digits_cases (L + 4) (by omega) with h | h | h | h | h <;> omega
    · intro n h1 h2
      rcases digits_cases n (by omega) with h | h | h | h | h <;> omega
  · refine key 5 (by omega) (by omega) ?_ ?_
    · rcases digits_cases (L + 5) (by omega) with h | h | h | h | h <;> omega
    · intro n h1 h2
      rcases digits_cases n (by omega) with h | h | h | h | h <;> omega
/-! ### the value: a row of 'v' -/
def vs (j : Nat) : ByteArray := strOfNums (List.replicate j 118)
theorem vs_list (j : Nat) : (vs j).data.toList = List.replicate j 118 := by
  unfold vs strOfNums
  simp
theorem vs_size (j : Nat) : (vs j).size = j := by rw [Lib.size_eq, vs_list, List.length_replicate]
theorem valid_vs : ∀ j : Nat, Lib.validD (List.replicate j 118) = true
  | 0 => rfl
  | j + 1 => by
    rw [List.replicate_succ, Lib.validD_cons _ _ (by decide)]
    exact valid_vs j
theorem no_zero : ∀ j : Nat, Lib.indexByte (List.replicate j 118) 0 = -1
  | 0 => rfl
  | j + 1 => by
    rw [List.replicate_succ]
    unfold Lib.indexByte
    rw [no_zero j]
    rfl
theorem right_vs (j : Nat) (h : j < 4294967281) : path_right.f (vs j) = some true := by
  unfold path_right.f utf8_ValidString.f strings_Contains.f
  rw [if_pos (by rw [vs_size]; exact h), if_pos (by rw [vs_size]; exact h), Option.bind_some, vs_list, valid_vs, if_pos rfl, Option.bind_some]
  have : Lib.contains (List.replicate j 118) [0] = false := by
    unfold Lib.contains
    rw [Lib.index_one, no_zero]
    rfl
  rw [show ((⟨#[0]⟩ : ByteArray).data.toList) = [0] from rfl, this]
  rfl
theorem record_right_vs (j : Nat) (h : j < 4294967281) : record_right.f (vs j) = some true := by
  unfold record_right.f path_Target.f
  rw [right_vs j h, Option.bind_some, if_pos rfl]
  split
  · rfl
  · split <;> rfl
theorem may_vs (j : Nat) (h : j < 90000) : record_may.f ⟨#[107]⟩ (vs j) = some true := by
  unfold record_may.f
  rw [if_neg (by decide +kernel), show strings_Contains.f ⟨#[107]⟩ ⟨#[61]⟩ = some false by decide +kernel, Option.bind_some, if_neg (by decide), show record_right.f ⟨#[107]⟩ = some true by decide +kernel, Option.bind_some, if_pos rfl,
    record_right_vs j (by omega), Option.bind_some, if_pos rfl, vs_size, w64 (by rw [show (⟨#[107]⟩ : ByteArray).size = 1 from rfl]; omega)]
  rw [show (⟨#[107]⟩ : ByteArray).size = 1 from rfl, decide_eq_true (by omega)]
def bodyOf (j : Nat) : ByteArray := ((((⟨#[32]⟩ : ByteArray) ++ ⟨#[107]⟩) ++ (⟨#[61]⟩ : ByteArray)) ++ vs j) ++ (⟨#[10]⟩ : ByteArray)
theorem body_list (j : Nat) : (bodyOf j).data.toList = 32 :: 107 :: 61 :: (List.replicate j 118 ++ [10]) := by
  unfold bodyOf
  simp only [ByteArray.data_append, Array.toList_append, vs_list]
  rfl
theorem body_size (j : Nat) : (bodyOf j).size = j + 4 := by
  rw [Lib.size_eq, body_list]
  simp
theorem line_vs (j : Nat) (h : j < 20000) (k : Nat) (hk : 10 ≤ k) : ∃ m, m ≤ j + 9 ∧ nDigits m + (j + 4) = m ∧ record_Line.f k ⟨#[107]⟩ (vs j) = some (⟨(decDigits m).toArray⟩ ++ bodyOf j, true) := by
  obtain ⟨m, hm5, hmL, hme, hmn⟩ := length_exists (j + 4) (by omega) (by omega)
  have hs := body_size j
  refine ⟨m, by omega, hme, ?_⟩
  have hl := line_loop (bodyOf j) m (by omega) (by omega) (by rw [hs]; exact hmn) (by omega) (fun n hn => by rcases digits_cases n (by omega) with h | h | h | h | h <;> omega) (m - (j + 4)) (j + 4) k (by omega) (by omega) (by omega)
  unfold record_Line.f
  rw [may_vs j (by omega), Option.bind_some, if_pos rfl]
  have h1 : (⟨#[32]⟩ : ByteArray).size = 1 := rfl
  have h2 : (⟨#[107]⟩ : ByteArray).size = 1 := rfl
  have h3 : (⟨#[61]⟩ : ByteArray).size = 1 := rfl
  have h4 := vs_size j
  rw [if_pos (by omega), if_pos (by rw [ByteArray.size_append]; omega), if_pos (by simp only [ByteArray.size_append]; omega), if_pos (by simp only [ByteArray.size_append]; omega)]
  have e : ((bodyOf j).size : Int) = ((j + 4 : Nat) : Int) := by rw [hs]
  rw [← hl, ← e]
  rfl
theorem ba_ext {s t : ByteArray} (h : s.data.toList = t.data.toList) : s = t := by
  cases s
  cases t
  simp at h
  rw [h]
theorem cut_front (D B : ByteArray) : (D ++ B).extract 0 D.size = D := by
  apply ba_ext
  rw [← Lib.toList_data, Lib.extract_toList, ByteArray.data_append, Array.toList_append, List.drop_zero, Nat.sub_zero, Lib.size_eq, List.take_left']
  rfl
theorem cut_back (D B : ByteArray) : ((D ++ B).extract D.size (D ++ B).size).toList = B.toList := by
  rw [Lib.extract_toList, ByteArray.data_append, Array.toList_append, Lib.toList_data, ByteArray.size_append, Lib.size_eq D, List.drop_left', Lib.size_eq B, Nat.add_sub_cancel_left, List.take_length]
  rfl
/-! ### the law's two loops -/
theorem fill_loop (j : Nat) (hj : j < 20000) : ∀ (r i k : Nat), i + r = j → r + 1 ≤ k →
    bindlelaw06_RecordSizes.l0 k (j : Int) (List.replicate i 118 ++ List.replicate r 0) (i : Int) = (record_Line.f (k - (r + 1)) ⟨#[107]⟩ (vs j)).bind fun b => bindlelaw06_RecordSizes.l1 (k - (r + 1)) (List.replicate j 118) b.1 b.2 0
  | r, i, 0, _, hk => absurd hk (by omega)
  | 0, i, k + 1, hi, hk => by
    have e : i = j := by omega
    subst e
    conv => lhs; unfold bindlelaw06_RecordSizes.l0
    rw [if_neg (by omega)]
    simp only [List.replicate_zero, List.append_nil]
    rfl
  | r + 1, i, k + 1, hi, hk => by
    conv => lhs; unfold bindlelaw06_RecordSizes.l0
    rw [if_pos (by omega), if_pos (by omega), if_pos (by simp; omega), w64 (by omega)]
    have e : (List.replicate i (118 : Int) ++ List.replicate (r + 1) 0).set (i : Int).toNat 118 = List.replicate (i + 1) 118 ++ List.replicate r 0 := by
      rw [Int.toNat_natCast, List.set_append_right _ _ (by simp), List.length_replicate, Nat.sub_self, List.replicate_succ, List.set_cons_zero, List.replicate_succ' (n := i), List.append_assoc]
      rfl
    rw [e]
    have h := fill_loop j hj r (i + 1) k (by omega) (by omega)
    rw [show ((i + 1 : Nat) : Int) = (i : Int) + 1 by omega] at h
    rw [h, show k + 1 - (r + 1 + 1) = k - (r + 1) by omega]
theorem find_loop (D body : ByteArray) (xs : List Int) (m j : Nat) (hD : D.data.toList = decDigits m) (hdm : nDigits m ≤ 18) (hm1 : 1 ≤ m) (hb : body = bodyOf j) (hj : j < 20000) (hx : xs = List.replicate j 118) (hm : nDigits m + body.size = m) :
    ∀ (r i k : Nat), i + r = nDigits m → r + 23 ≤ k → bindlelaw06_RecordSizes.l1 k xs (D ++ body) true (i : Int) = some true
  | r, i, 0, _, hk => absurd hk (by omega)
  | 0, i, k + 1, hi, hk => by
    have hDs : D.size = nDigits m := by rw [Lib.size_eq, hD, Lib.decDigits_length]
    have hs : (D ++ body).size = m := by rw [ByteArray.size_append]; omega
    have hbs : body.size = j + 4 := by rw [hb, body_size]
    have hl : (D ++ body).data.toList = decDigits m ++ (bodyOf j).data.toList := by rw [ByteArray.data_append, Array.toList_append, hD, hb]
    have hlt : i < (D ++ body).data.toList.length := by rw [← Lib.size_eq]; omega
    have hb32 : bt (D ++ body) (i : Int) = 32 := by
      rw [bt_list _ i hlt]
      have : (D ++ body).data.toList[i]? = some 32 := by
        rw [hl, List.getElem?_append_right (by rw [Lib.decDigits_length]; omega), Lib.decDigits_length, show i - nDigits m = 0 by omega, body_list]
        rfl
      rw [List.getElem?_eq_getElem hlt] at this
      rw [Option.some.inj this]
      rfl
    have hi' : ((i : Int)).toNat = D.size := by omega
    have h0 : bt (D ++ body) 0 ≠ 48 := by
      obtain ⟨b, r, hr, hb⟩ := digits_head m hm1
      have hlt0 : 0 < (D ++ body).data.toList.length := by omega
      have := bt_list (D ++ body) 0 hlt0
      rw [show ((0 : Nat) : Int) = 0 from rfl] at this
      rw [this]
      have h2 : (D ++ body).data.toList[0]? = some b := by rw [hl, hr]; rfl
      rw [List.getElem?_eq_getElem hlt0] at h2
      rw [Option.some.inj h2]
      omega
    have hvs : strOfNums xs = vs j := by rw [hx]; rfl
    have h3 : (⟨#[32, 107, 61]⟩ : ByteArray).size = 3 := rfl
    conv => lhs; unfold bindlelaw06_RecordSizes.l1
    rw [if_pos (by omega), if_pos (by omega), if_pos hb32, if_pos (by omega), hi', cut_front, whole_digits D m k hD hdm (by omega), Option.bind_some, bindlelaw06_answers.f, Option.bind_some, if_pos rfl, if_pos rfl, if_pos rfl, if_pos (by rw [hs]),
      if_pos (by omega), if_neg h0, hvs, if_pos (by rw [vs_size]; omega), if_pos (by rw [ByteArray.size_append, vs_size]; omega), cut_back]
    simp only [Option.some.injEq, beq_iff_eq]
    rw [hb, Lib.toList_data, Lib.toList_data, body_list, ByteArray.data_append, ByteArray.data_append, Array.toList_append, Array.toList_append, vs_list]
    rfl
  | r + 1, i, k + 1, hi, hk => by
    have hDs : D.size = nDigits m := by rw [Lib.size_eq, hD, Lib.decDigits_length]
    have hs : (D ++ body).size = m := by rw [ByteArray.size_append]; omega
    have hl : (D ++ body).data.toList = decDigits m ++ (bodyOf j).data.toList := by rw [ByteArray.data_append, Array.toList_append, hD, hb]
    have hlt : i < (D ++ body).data.toList.length := by rw [← Lib.size_eq, ByteArray.size_append]; omega
    have hid : i < (decDigits m).length := by rw [Lib.decDigits_length]; omega
    have hb32 : ¬ bt (D ++ body) (i : Int) = 32 := by
      rw [bt_list _ i hlt]
      have h2 : (D ++ body).data.toList[i]? = some (decDigits m)[i] := by rw [hl, List.getElem?_append_left hid, List.getElem?_eq_getElem hid]
      rw [List.getElem?_eq_getElem hlt] at h2
      rw [Option.some.inj h2]
      have := digits_range m _ (List.getElem_mem hid)
      omega
    conv => lhs; unfold bindlelaw06_RecordSizes.l1
    rw [if_pos (by rw [ByteArray.size_append]; omega), if_pos (by omega), if_neg hb32, w64 (by omega)]
    exact find_loop D body xs m j hD hdm hm1 hb hj hx hm r (i + 1) k (by omega) (by omega)
theorem recordSizes_true (n : Int) (h0 : 0 ≤ n) (h1 : n < 4294967296) : bindlelaw06_RecordSizes.f 30000 n = some true := by
  obtain ⟨j, hj, hjn⟩ : ∃ j : Nat, j < 20000 ∧ wrap64 (Int.tmod n 20000) = (j : Int) := by
    have h2 : Int.tmod n 20000 = n % 20000 := Int.tmod_eq_emod_of_nonneg h0
    refine ⟨(n % 20000).toNat, by omega, ?_⟩
    rw [h2, w64 (by omega)]
    omega
  unfold bindlelaw06_RecordSizes.f
  rw [hjn, if_pos (by omega), if_pos (by omega), Int.toNat_natCast]
  have hf := fill_loop j hj j 0 30000 (by omega) (by omega)
  simp only [List.replicate_zero, List.nil_append] at hf
  rw [show ((0 : Nat) : Int) = 0 from rfl] at hf
  rw [hf]
  obtain ⟨m, hm9, hm, hl⟩ := line_vs j hj (30000 - (j + 1)) (by omega)
  rw [hl, Option.bind_some]
  have hdm : nDigits m ≤ 5 := by rcases digits_cases m (by omega) with h | h | h | h | h <;> omega
  exact find_loop ⟨(decDigits m).toArray⟩ (bodyOf j) _ m j rfl (by omega) (by omega) rfl hj rfl (by rw [body_size]; exact hm) (nDigits m) 0 (30000 - (j + 1)) (by omega) (by omega)
end Go.Proofs.YtehfblmconkdhaaDoor.Q
