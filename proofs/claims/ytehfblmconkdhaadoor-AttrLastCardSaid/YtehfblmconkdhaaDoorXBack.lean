/- slices.Backward over records: from the last to the first, each with its number; the iterator reads a variable and the slice. -/
import Derived.Test.YtehfblmconkdhaaDoorQ0
import Derived.Test.YtehfblmconkdhaaDoorXRange
import Derived.Lib.IndexLaws
import Derived.Shelf.Abstract
import Derived.Shelf.RegionOpen
import Derived.WalkKit
import Derived.OwnWalkIn
import Derived.TacticsInMore
import Derived.LoopNIn
import Derived.LoopIn
namespace Go.Proofs.YtehfblmconkdhaaDoor.Q
open Go.RowKit Go.Proofs.YtehfblmconkdhaaDoorW.PrintWords Go.Proofs.YtehfblmconkdhaaDoorW.PrintLast Go.Proofs.YtehfblmconkdhaaDoorW.PrintMore
set_option linter.unusedVariables false
set_option linter.unusedSimpArgs false
/-- The k first records with their numbers, from the last on. -/
def backN (l : List S42) : Nat → List (Int × S42)
  | 0 => []
  | k + 1 => ((k : Int), rd_T42 l (k : Int)) :: backN l k
def encR (x : Int × S42) : Array Value := #[.int .i64 x.1, .agg #[.string x.2.f0, .string x.2.f1]]
/-- The slice's records are read in this world. -/
def Reads (A : Option Addr) (l : List S42) (W : World) : Prop := ∀ i : Int, 0 ≤ i → i < (l.length : Int) → ∃ ad, A = some ad ∧ W.cell? (ad.add (i.toNat * 2)) = some (.string (rd_T42 l i).f0) ∧ W.cell? ⟨(ad.add (i.toNat * 2)).block, (ad.add (i.toNat * 2)).off + 1, none⟩ = some (.string (rd_T42 l i).f1)
theorem reads_of_C {A : Option Addr} {l : List S42} {W : World} (h : Kd.C k42 W A l.length l) : Reads A l W := fun i h0 h1 => at_T42 h i h0 h1
set_option maxRecDepth 100000 in
set_option maxHeartbeats 2000000 in
theorem back_iter (n : Nat) (l bb : Nat) (A : Option Addr) (c : Nat) (xs : List S42) (hlen : xs.length ≤ 1000000000000000) (J Jx : List (Int × S42) → World → Prop)
    (hJ : ∀ pre W, J pre W → W.cell? ⟨bb, 0, none⟩ = some (.slice A xs.length c) ∧ Reads A xs W)
    (hY : ∀ pre x rest W1, pre ++ x :: rest = backN xs xs.length → J pre W1 → YieldAt Fence.wide (n - 1) Tryd.prog l (encR x) W1 fun e W' => (e = .returned (.bool true) ∧ J (pre ++ [x]) W' ∧ (∀ k, k ∈ ([] : List Nat) → W'.heap[k]? = W1.heap[k]?)) ∨ (e = .returned (.bool false) ∧ Jx (pre ++ [x]) W'))
    (W : World) (h0 : J [] W) :
    CallsIn Fence.wide n Tryd.prog 29 #[.func (.yield l) #[] #[], .pointer (some ⟨bb, 0, none⟩)] W fun e W' => (∃ v, e = .returned v) ∧ (J (backN xs xs.length) W' ∨ ∃ pre, Jx pre W') := by
  refine callsIn_of_wp Tryd.func29 rfl trivial ?_ rfl
  simp only [Tryd.ntmps29, List.size_toArray, List.length_cons, List.length_nil, Nat.reduceAdd, Nat.reduceSub, Array.replicate_succ, Array.replicate_zero, List.push_toArray, List.append_toArray, List.nil_append, List.cons_append]
  have hbc := (hJ _ _ h0).1
  gi_wp2
  gi_loopw [3] (fun i wr => ∃ (k : Nat) (pre : List (Int × S42)), i = .int .i64 ((k : Int) - 1) ∧ k ≤ xs.length ∧ Aside (J pre wr) ∧ Aside (pre ++ backN xs k = backN xs xs.length)) (fun i _ => (intOf i + 1).toNat)
  case atStart => exact ⟨xs.length, [], rfl, Nat.le_refl _, h0, rfl⟩
  case round =>
    obtain ⟨k, pre, rfl, hk, hJ1, hx⟩ := hrel
    rcases k with _ | k
    · have h1 : ¬ ((0 : Int) ≤ ((0 : Nat) : Int) - 1) := by omega
      gi_wp2
      have hJ2 : J pre wr := hJ1
      have hx2 : pre ++ backN xs 0 = backN xs xs.length := hx
      refine bodyPost_end (results_none rfl _ _ _) rfl ?_
      exact ⟨⟨_, rfl⟩, .inl (by rw [← hx2]; simpa [backN] using hJ2)⟩
    · have e1 : (((k + 1 : Nat) : Int) - 1) = (k : Int) := by omega
      rw [e1]
      have h1 : (0 : Int) ≤ (k : Int) := by omega
      have h2 : (k : Int) < (xs.length : Int) := by omega
      obtain ⟨hb1, hr1⟩ := hJ _ _ hJ1
      obtain ⟨ad, rfl, hx0, hx1⟩ := hr1 (k : Int) h1 h2
      rw [Int.toNat_natCast] at hx0 hx1
      obtain ⟨fn, tmps, assign, body, hy, hR⟩ := hY pre ((k : Int), rd_T42 xs (k : Int)) (backN xs k) wr hx hJ1
      simp only [encR] at hy
      have hX := Aside0.mk hx
      clear hx hr1 e1
      gi_wp2_with (refine ⟨trivial, fun h_ => absurd h_ (by decide), ?_⟩)
      refine ⟨fun h_ => absurd h_ (by decide), hR.mono ?_⟩
      rintro e W' (⟨rfl, hJ', _⟩ | ⟨rfl, hJx'⟩)
      · have hd : Aside0 (pre ++ [((k : Int), rd_T42 xs (k : Int))] ++ backN xs k = backN xs xs.length) := ⟨by rw [← hX.out]; simp [backN]⟩
        have HJ' := Aside0.mk hJ'
        clear hJ'
        gi_wp2
        refine ⟨⟨k, _, rfl, by omega, HJ'.out, hd.out⟩, ?_⟩
        simp only [intOf]
        omega
      · have HJ' := Aside0.mk hJx'
        clear hJx'
        gi_wp2
        refine bodyPost_ret (results_none rfl _ _ _) rfl ?_
        exact ⟨⟨_, rfl⟩, .inr ⟨_, HJ'.out⟩⟩
end Go.Proofs.YtehfblmconkdhaaDoor.Q
