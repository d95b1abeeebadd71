/-
  How long a slice that comes in may be.
-/
import Derived.Test.YtpimbaphenignaaOp
import Derived.SizedLaws
namespace Go.Proofs.Ytpimbaphenignaa
open Go Go.Sl Go.RowKit
theorem keep_sized {H : Type} {enc : TypeId × Value → H} {P : Program} {w : World} {spare : Nat → Bool} {held : Bool} {t e : TypeId} {a : Option Addr} {len cap : Nat} {d : DataW H} {ps : List MemPlace}
    (h : DataW.Trod enc P w 0 spare held t (.slice a len cap) d ps) (ht : P.underlying t = some (.slice e)) (hb : P.bytesOf e = 1) {ts : List TypeId} {ds : List (DataW H)} (hs : (DataW.weightsEach P ts ds).all (· ≤ reachBytes) = true)
    {j : Nat} (hj : ts[j]? = some t) (hd : ds[j]? = some d) : len ≤ 140737488351232 := by
  obtain ⟨fuel, hf⟩ := h
  rcases Go.Deep.open_slice ht hf with ⟨hcs, _⟩ | ⟨a', len', cap', m, n, D, Pl, hcs, _, hl, hcm, hm, hx, _⟩
  · simp only [Value.cells, List.cons.injEq, Value.slice.injEq, and_true] at hcs
    omega
  · simp only [Value.cells, List.cons.injEq, Value.slice.injEq, and_true] at hcs
    have hd2 : d = _ := congrArg Prod.fst hx
    rw [hd2] at hd
    have h3 := sized_slice hs hj hd ht
    rw [hb] at h3
    simp only [List.length_map, List.length_range] at h3
    have hr : reachBytes = 140737488351232 := rfl
    rw [hr] at h3
    omega
end Go.Proofs.Ytpimbaphenignaa
