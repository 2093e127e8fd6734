/- ref.last and ref.Value, told by lastOf and valueOf. -/
import Derived.Test.YtehfblmconkdhaaDoorQ17
import Derived.Test.YtehfblmconkdhaaDoorXValue
namespace Go.Proofs.YtehfblmconkdhaaDoor.Q
open Go.RowKit Go.Proofs.YtehfblmconkdhaaDoorW.PrintWords Go.Proofs.YtehfblmconkdhaaDoorW.PrintLast Go.Proofs.YtehfblmconkdhaaDoorW.PrintMore
theorem last_loop (l : List S42) (key : ByteArray) (hl : l.length ≤ 1000000000000000) : ∀ (m k : Nat), m ≤ l.length → m + 1 ≤ k →
    bindleref01_last.l0 k l key ((m : Int) - 1) = some ((((backN l m).find? (isKey key)).map (·.2.f1)).getD ⟨#[]⟩, ((backN l m).find? (isKey key)).isSome)
  | 0, 0, _, hk => absurd hk (by omega)
  | 0, k + 1, _, _ => by
    unfold bindleref01_last.l0
    rw [if_neg (by omega)]
    rfl
  | m + 1, 0, _, hk => absurd hk (by omega)
  | m + 1, k + 1, hm, hk => by
    have e : (((m + 1 : Nat) : Int) - 1) = (m : Int) := by omega
    rw [e]
    unfold bindleref01_last.l0
    have hw : wrap64 ((m : Int) - 1) = (m : Int) - 1 := by unfold wrap64; omega
    have ih := last_loop l key hl m k (by omega) (by omega)
    rw [if_pos (by omega), if_pos (by omega), if_pos (by omega)]
    by_cases h : (rd_T42 l (m : Int)).f0.toList = key.toList
    · have hq : isKey key ((m : Int), rd_T42 l (m : Int)) = true := by unfold isKey; exact beq_iff_eq.2 h
      rw [if_pos h]
      simp only [backN, List.find?_cons, hq]
      rfl
    · have hq : isKey key ((m : Int), rd_T42 l (m : Int)) = false := by unfold isKey; exact beq_eq_false_iff_ne.2 h
      rw [if_neg h, hw, ih]
      simp only [backN, List.find?_cons, hq]
theorem last_is (l : List S42) (key : ByteArray) (k : Nat) (hl : l.length ≤ 1000000000000000) (hk : l.length + 1 ≤ k) : bindleref01_last.f k l key = some ((lastOf l key).getD ⟨#[]⟩, (lastOf l key).isSome) := by
  unfold bindleref01_last.f
  rw [show wrap64 ((l.length : Int) - 1) = (l.length : Int) - 1 by unfold wrap64; omega, last_loop l key hl l.length k (Nat.le_refl _) hk]
  unfold lastOf
  cases (backN l l.length).find? (isKey key) <;> rfl
theorem value_is (g own : List S42) (key : ByteArray) (k : Nat) (hg : g.length ≤ 1000000000000000) (ho : own.length ≤ 1000000000000000) (hk : g.length + own.length + 1 ≤ k) : bindleref01_Value.f k g own key = some (valueOf g own key) := by
  unfold bindleref01_Value.f valueOf
  rw [last_is own key k ho (by omega), Option.bind_some]
  cases lastOf own key with
  | some v => rfl
  | none =>
    dsimp only
    rw [if_neg (by decide), last_is g key k hg (by omega)]
    rfl
end Go.Proofs.YtehfblmconkdhaaDoor.Q
