/-
  The document's Around.
-/
import Derived.Test.YtpimbaphenignaaAp
namespace Go.Proofs.Ytpimbaphenignaa
open Go Go.Sl Go.IntWalk
def around (x m : Int) : Int := (if x < 0 then -(x + 1) else x).tmod m
theorem Around_spec (x m : Int) (hx : -9223372036854775808 ≤ x ∧ x ≤ 9223372036854775807) (hm : 0 < m) :
    Ctr Try.prog 10 [.int .i64 x, .int .i64 m] [] [] (fun v L' => v = .int .i64 (around x m) ∧ L' = []) := by
  refine Ctr.enter (n := 13) [.tmp 4] [(0, _), (1, _)] Try.func10 rfl rfl rfl (lb rfl) Try.call10 ⟨rfl, rfl, trivial⟩ ?_
  intro cx fin fin0
  refine aG ?_
  by_cases h : x < 0
  · refine aT ?_ (hb := by exact gd h)
    refine aV (OpVal.add rfl rfl (i64_in _ (by omega))) ?_
    refine aV (OpVal.neg rfl (i64_in _ (by omega))) ?_
    refine aV (OpVal.rem rfl rfl (by omega) rfl) ?_
    refine W.ret (fin _ _ (FinOk.mk' ([]) (.tmp rfl .nil) (by repeat (first | exact Sel.nil | (apply Sel.cons; (repeat (first | exact Pick.here | apply Pick.there))))) rfl ?_))
    exact ⟨by simp only [pack, around, if_pos h], rfl⟩
  · refine aF ?_ (hb := by exact gd h)
    refine aV (OpVal.rem rfl rfl (by omega) rfl) ?_
    refine W.ret (fin _ _ (FinOk.mk' ([]) (.tmp rfl .nil) (by repeat (first | exact Sel.nil | (apply Sel.cons; (repeat (first | exact Pick.here | apply Pick.there))))) rfl ?_))
    exact ⟨by simp only [pack, around, if_neg h], rfl⟩
theorem around_range (x m : Int) (hm : 0 < m) : 0 ≤ around x m ∧ around x m < m := by
  unfold around
  have : 0 ≤ (if x < 0 then -(x + 1) else x) := by split <;> omega
  generalize (if x < 0 then -(x + 1) else x) = y at *
  rw [Int.tmod_eq_emod_of_nonneg this]
  exact ⟨Int.emod_nonneg _ (by omega), Int.emod_lt_of_pos _ hm⟩
end Go.Proofs.Ytpimbaphenignaa
