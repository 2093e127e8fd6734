/- Arguments of layer 7's laws: headers, records, rows of records, opened. -/
import Derived.Test.YtehfblmconkdhaaDoorXOpen
import Derived.Test.YtehfblmconkdhaaDoorXCall7
namespace Go.Proofs.YtehfblmconkdhaaDoor.Open
open Go.ChangeShapes Go.WideShapes Go.ChangeAt Go.RowKit Go.Proofs.YtehfblmconkdhaaDoorW.PrintWords
open Go.Proofs.YtehfblmconkdhaaDoor.Q (S42 k42 Hd)
def recOk (x : S42) : Prop := x.f0.size ≤ reachBytes ∧ x.f1.size ≤ reachBytes
theorem opens_rec : Opens Tryd.prog k42 42 recOk :=
  opens_mono (show Opens Tryd.prog (Kd.iso (Kd.pair Kd.string Kd.string) (fun x : S42 => (x.f0, x.f1))) 42 _ from opens_struct (fun p => ⟨p.1, p.2⟩) (fun _ => rfl) Tryd.underlying42 (by kernel_rfl) (opensF_cons ⟨rfl, rfl⟩ (by kernel_rfl) rfl (opens_string Tryd.underlying9) (opensF_one ⟨rfl, rfl⟩ (by kernel_rfl) (opens_string Tryd.underlying9)))) (fun _ h => h)
theorem opens_recs : Opens Tryd.prog (Kd.slice 42 k42) 27 (fun l => l.length * 32 ≤ reachBytes ∧ ∀ x ∈ l, recOk x) :=
  opens_slice Tryd.underlying27 (by kernel_rfl) (by kernel_rfl) opens_rec
theorem opens_rows : Opens Tryd.prog (Kd.slice 27 (Kd.slice 42 k42)) 26 (fun l => l.length * 24 ≤ reachBytes ∧ ∀ x ∈ l, x.length * 32 ≤ reachBytes ∧ ∀ y ∈ x, recOk y) :=
  opens_slice Tryd.underlying26 (by kernel_rfl) (by kernel_rfl) opens_recs
def kMeta : Kd (Int × Int × Int × Int) := Kd.iso (Kd.pair (Kd.int .i64) (Kd.pair (Kd.int .i64) (Kd.pair (Kd.int .i64) (Kd.int .i64)))) id
def kHd : Kd Hd := Kd.iso (Kd.pair Kd.string (Kd.pair Kd.string (Kd.pair (Kd.int .u8) (Kd.pair kMeta (Kd.pair (Kd.int .i64) Kd.bool))))) (fun h => (h.name, h.link, h.kind, (h.mode, h.uid, h.gid, h.time), h.size, h.gnu))
theorem kHd_open {w : World} {h : Hd} {cs : List Value} (k : kHd.K w h cs) : cs = h.cells.toList := by
  obtain ⟨_, _, rfl, rfl, _, _, rfl, rfl, _, _, rfl, rfl, _, _, rfl, km, _, _, rfl, rfl, rfl⟩ := k
  obtain ⟨_, _, rfl, rfl, _, _, rfl, rfl, _, _, rfl, rfl, rfl⟩ := km
  rfl
theorem opens_meta : Opens Tryd.prog kMeta 23 (fun _ => True) :=
  opens_mono (opens_struct id (fun _ => rfl) Tryd.underlying23 (by kernel_rfl) (opensF_cons ⟨rfl, rfl⟩ (by kernel_rfl) rfl (opens_int Tryd.underlying3) (opensF_cons ⟨rfl, rfl⟩ (by kernel_rfl) rfl (opens_int Tryd.underlying3) (opensF_cons ⟨rfl, rfl⟩ (by kernel_rfl) rfl (opens_int Tryd.underlying3) (opensF_one ⟨rfl, rfl⟩ (by kernel_rfl) (opens_int Tryd.underlying3)))))) (fun _ _ => trivial)
theorem opens_hd : Opens Tryd.prog kHd 25 (fun _ => True) :=
  opens_mono (opens_struct (fun p => ⟨p.1, p.2.1, p.2.2.1, p.2.2.2.1.1, p.2.2.2.1.2.1, p.2.2.2.1.2.2.1, p.2.2.2.1.2.2.2, p.2.2.2.2.1, p.2.2.2.2.2⟩) (fun _ => rfl) Tryd.underlying25 (by kernel_rfl)
    (opensF_cons ⟨rfl, rfl⟩ (by kernel_rfl) rfl (opens_string Tryd.underlying9) (opensF_cons ⟨rfl, rfl⟩ (by kernel_rfl) rfl (opens_string Tryd.underlying9) (opensF_cons ⟨rfl, rfl⟩ (by kernel_rfl) rfl (opens_int Tryd.underlying5) (opensF_cons ⟨rfl, rfl⟩ (by kernel_rfl) rfl opens_meta (opensF_cons ⟨rfl, rfl⟩ (by kernel_rfl) rfl (opens_int Tryd.underlying3) (opensF_one ⟨rfl, rfl⟩ (by kernel_rfl) (opens_bool Tryd.underlying4)))))))) (fun _ _ => trivial)
section
variable {H : Type} {enc : TypeId × Value → H} {W : World} {ts : List TypeId} {ds : List (DataW H)} {j : Nat} {v : Value} {x : DataW H} {ps : List MemPlace}
set_option maxRecDepth 100000 in
/-- A row of records that came in. -/
theorem arg_recs (hx : DataW.Trod enc Tryd.prog W 0 (fun _ => true) true 27 v x ps) {base : Nat} (hv : Value.okWide Tryd.prog W .any base 27 v) (hz : (DataW.weightsEach Tryd.prog ts ds).all (· ≤ reachBytes) = true) (ht : ts[j]? = some 27) (hd : ds[j]? = some x) :
    ∃ A c l, v = .slice A l.length c ∧ l.length ≤ c ∧ Kd.C k42 W A l.length l ∧ l.length ≤ 1000000000000000 ∧ Q.Small l := by
  obtain ⟨a, len, cap, rfl⟩ := okWide_slice Tryd.underlying27 hv
  obtain ⟨l, ⟨A, c, hc, hl, hC⟩, hn, hok⟩ := Opens.arg opens_recs hx hz ht hd
  have hc : [Value.slice a len cap] = [.slice A l.length c] := hc
  simp only [List.cons.injEq, Value.slice.injEq, and_true] at hc
  obtain ⟨rfl, rfl, rfl⟩ := hc
  refine ⟨a, cap, l, rfl, hl, hC, ?_, fun y hy => ?_⟩
  · unfold reachBytes at hn
    omega
  · have := (hok y hy).2
    unfold reachBytes at this
    omega
set_option maxRecDepth 100000 in
theorem arg_rows (hx : DataW.Trod enc Tryd.prog W 0 (fun _ => true) true 26 v x ps) {base : Nat} (hv : Value.okWide Tryd.prog W .any base 26 v) (hz : (DataW.weightsEach Tryd.prog ts ds).all (· ≤ reachBytes) = true) (ht : ts[j]? = some 26) (hd : ds[j]? = some x) :
    ∃ A c l, v = .slice A l.length c ∧ l.length ≤ c ∧ Kd.C (Kd.slice 42 k42) W A l.length l ∧ l.length ≤ 1000000000000000 ∧ ∀ y ∈ l, y.length ≤ 1000000000000000 ∧ Q.Small y := by
  obtain ⟨a, len, cap, rfl⟩ := okWide_slice Tryd.underlying26 hv
  obtain ⟨l, ⟨A, c, hc, hl, hC⟩, hn, hok⟩ := Opens.arg opens_rows hx hz ht hd
  have hc : [Value.slice a len cap] = [.slice A l.length c] := hc
  simp only [List.cons.injEq, Value.slice.injEq, and_true] at hc
  obtain ⟨rfl, rfl, rfl⟩ := hc
  refine ⟨a, cap, l, rfl, hl, hC, ?_, fun y hy => ⟨?_, fun z hz => ?_⟩⟩
  · unfold reachBytes at hn
    omega
  · have := (hok y hy).1
    unfold reachBytes at this
    omega
  · have := ((hok y hy).2 z hz).2
    unfold reachBytes at this
    omega
set_option maxRecDepth 100000 in
theorem arg_hd (hx : DataW.Trod enc Tryd.prog W 0 (fun _ => true) true 25 v x ps) {base : Nat} (hv : Value.okWide Tryd.prog W .any base 25 v) (hz : (DataW.weightsEach Tryd.prog ts ds).all (· ≤ reachBytes) = true) (ht : ts[j]? = some 25) (hd : ds[j]? = some x) :
    ∃ h : Hd, v = .agg #[.string h.name, .string h.link, .int .u8 h.kind, .int .i64 h.mode, .int .i64 h.uid, .int .i64 h.gid, .int .i64 h.time, .int .i64 h.size, .bool h.gnu] := by
  obtain ⟨cs, rfl, _⟩ := okWide_struct Tryd.underlying25 hv
  obtain ⟨h, hk, _⟩ := Opens.arg opens_hd hx hz ht hd
  have hk2 : cs.toList = h.cells.toList := kHd_open hk
  exact ⟨h, by rw [Array.toList_inj.1 hk2]; rfl⟩
end
end Go.Proofs.YtehfblmconkdhaaDoor.Open
