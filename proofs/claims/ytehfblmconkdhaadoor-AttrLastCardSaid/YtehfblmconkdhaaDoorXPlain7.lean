/- What counts of a key, over lists alone: records behind others, bounds. -/
import Derived.Test.YtehfblmconkdhaaDoorXValue
namespace Go.Proofs.YtehfblmconkdhaaDoor.Q
open Go.RowKit Go.Proofs.YtehfblmconkdhaaDoorW.PrintWords Go.Proofs.YtehfblmconkdhaaDoorW.PrintLast Go.Proofs.YtehfblmconkdhaaDoorW.PrintMore
def hasKey (key : ByteArray) (x : S42) : Bool := x.f0.toList == key.toList
theorem backN_map (l : List S42) : ∀ k, k ≤ l.length → (backN l k).map (·.2) = (l.take k).reverse
  | 0, _ => by simp [backN]
  | k + 1, h => by
    have hlt : k < l.length := by omega
    simp only [backN, List.map_cons, backN_map l k (by omega)]
    rw [List.take_succ_eq_append_getElem hlt, List.reverse_append]
    congr 1
    unfold rd_T42
    rw [Int.toNat_natCast, List.getD_eq_getElem?_getD, List.getElem?_eq_getElem hlt]
    rfl
theorem lastOf_eq (l : List S42) (key : ByteArray) : lastOf l key = (l.reverse.find? (hasKey key)).map (·.f1) := by
  unfold lastOf
  have h := backN_map l l.length (Nat.le_refl _)
  rw [List.take_length] at h
  rw [← h, List.find?_map, Option.map_map]
  rfl
theorem lastOf_append (l m : List S42) (key : ByteArray) : lastOf (l ++ m) key = (lastOf m key).orElse fun _ => lastOf l key := by
  rw [lastOf_eq, lastOf_eq, lastOf_eq, List.reverse_append, List.find?_append]
  cases m.reverse.find? (hasKey key) <;> rfl
theorem lastOf_one (x : S42) (key : ByteArray) : lastOf [x] key = if hasKey key x = true then some x.f1 else none := by
  rw [lastOf_eq]
  simp only [List.reverse_singleton, List.find?_singleton]
  split <;> rfl
theorem lastOf_mem {l : List S42} {key v : ByteArray} (h : lastOf l key = some v) : ∃ x ∈ l, x.f1 = v := by
  rw [lastOf_eq] at h
  obtain ⟨x, hx, hv⟩ := Option.map_eq_some_iff.1 h
  exact ⟨x, List.mem_reverse.1 (List.mem_of_find?_eq_some hx), hv⟩
theorem valueOf_size {g own : List S42} {key : ByteArray} {B : Nat} (hg : ∀ x ∈ g, x.f1.size ≤ B) (ho : ∀ x ∈ own, x.f1.size ≤ B) : (valueOf g own key).size ≤ B := by
  unfold valueOf
  cases h : lastOf own key with
  | some v =>
    obtain ⟨x, hx, rfl⟩ := lastOf_mem h
    exact ho x hx
  | none =>
    cases h2 : lastOf g key with
    | some v =>
      obtain ⟨x, hx, rfl⟩ := lastOf_mem h2
      exact hg x hx
    | none => exact Nat.zero_le _
theorem valueOf_other (g own : List S42) (x : S42) (key : ByteArray) (h : hasKey key x = false) : valueOf g (own ++ [x]) key = valueOf g own key := by
  unfold valueOf
  rw [lastOf_append, lastOf_one, h]
  rfl
theorem valueOf_last (g own : List S42) (key value : ByteArray) : valueOf g (own ++ [⟨key, value⟩]) key = value := by
  unfold valueOf
  rw [lastOf_append, lastOf_one]
  simp [hasKey]
theorem valueOf_behind (g own m : List S42) (key v : ByteArray) (h : lastOf m key = some v) : valueOf g (own ++ m) key = v := by
  unfold valueOf
  rw [lastOf_append, h]
  rfl
end Go.Proofs.YtehfblmconkdhaaDoor.Q
