/-
  What numbers that came in are.
-/
import Derived.Test.YtdhjmeoppmpilaaAc
import Derived.Test.YtdhjmeoppmpilaaLw
import Derived.OpenShut
namespace Go.Proofs.Ytdhjmeoppmpilaa
open Go Go.Sl Go.RowKit Go.ChangeShapes Go.WideShapes
set_option maxRecDepth 20000
theorem wf_i64 {a : Int} (h : (Lit.int .i64 a).wf = true) : i64s a := by
  simp only [Lit.wf, Bool.and_eq_true, decide_eq_true_eq] at h
  exact h
section
variable {H : Type} {enc : TypeId × Value → H} {w : World} {spare : Nat → Bool} {held : Bool}
theorem open_ints {r : Reach} {b0 : Nat} {t e : TypeId} {kk : IntKind} {v : Value} {d : DataW H} {ps : List MemPlace} {Ok : Int → Prop} (ht : Try.prog.underlying t = some (.slice e)) (he : Try.prog.underlying e = some (.int kk)) (hc : Try.prog.cellsOf e = 1)
    (hw : ∀ i, (Lit.int kk i).wf = true → Ok i) (hok : Value.okWide Try.prog w r b0 t v) (h : DataW.Trod enc Try.prog w 0 spare held t v d ps) :
    ∃ (a : Option Addr) (cap : Nat) (xs : List Int) (ro : HL), v = .slice a xs.length cap ∧ RoSl 1 (xs.flatMap fun x => [.int kk x]) a xs.length ro ∧ (∀ p ∈ ro, w.heap[p.1]? = some p.2) ∧ (∀ x ∈ xs, Ok x) ∧ xs.length ≤ cap ∧ cap ≤ maxLen :=
  open_list (fun x => [.int kk x]) Ok 1 (by decide) (fun _ => rfl) ht hc (fun _ _ _ h => by
    obtain ⟨i, rfl, _, hwf⟩ := DataW.trod_int he h
    exact ⟨i, rfl, hw i hwf⟩) hok h
end
end Go.Proofs.Ytdhjmeoppmpilaa
