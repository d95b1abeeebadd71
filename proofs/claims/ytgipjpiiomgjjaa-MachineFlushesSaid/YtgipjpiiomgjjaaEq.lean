/-
  A struct's value is equal to itself, in the program's own '=='; over any program.
-/
import Derived.Test.YtgipjpiiomgjjaaSr
import Derived.Laws.StructEq
namespace Go.Sl
open Go
section
variable {P : Program} {n : Nat} {R : HL} {cx : Cx} {k : List Kont} {ρ : Env} {L : List HL}
def SelfEq (P : Program) (l : List Value) (f : Field) : Prop :=
  IsAgg P f.type false ∧ ∃ v, l[f.offset]? = some v ∧ ∀ (d : Nat) (w : World), (Op.equalIn (d + 1) f.type v v).run P w = .ok true w
theorem SelfEq.int {l : List Value} {f : Field} {kk k' : IntKind} {i : Int} (ha : IsAgg P f.type false) (ht : P.underlying f.type = some (.int k')) (h : l[f.offset]? = some (.int kk i)) : SelfEq P l f :=
  ⟨ha, _, h, fun d w => by have := run_equalIn_int (P := P) w d f.type kk k' i i ht; simpa using this⟩
theorem SelfEq.bool {l : List Value} {f : Field} {b : Bool} (ha : IsAgg P f.type false) (ht : P.underlying f.type = some .bool) (h : l[f.offset]? = some (.bool b)) : SelfEq P l f :=
  ⟨ha, _, h, fun d w => by have := run_equalIn_bool' (P := P) w d f.type b b ht; simpa using this⟩
theorem SelfEq.str {l : List Value} {f : Field} {b : ByteArray} (ha : IsAgg P f.type false) (ht : P.underlying f.type = some .string) (h : l[f.offset]? = some (.string b)) : SelfEq P l f :=
  ⟨ha, _, h, fun d w => by have := run_equalIn_string (P := P) w d f.type b b ht; simpa using this⟩
theorem eqFields_self (d : Nat) (l : List Value) (w : World) : ∀ fs : List Field, (∀ f ∈ fs, SelfEq P l f) → (Op.eqFields (d + 1) l.toArray l.toArray fs).run P w = .ok true w
  | [], _ => rfl
  | f :: fs, h => by
    obtain ⟨ha, v, hv, he⟩ := h f (by simp)
    have ih := eqFields_self d l w fs (fun g hg => h g (by simp [hg]))
    have hp : (part f.type l.toArray f.offset).run P w = .ok v w := by simp [part, ha w, hv]
    simp only [Op.eqFields]
    split
    · simp only [Sem.run_bind, hp, Result.andThen_ok, he d w]
      simpa using ih
    · exact ih
theorem equal_self {t : TypeId} {fs : Array Field} {l : List Value} (ht : P.underlying t = some (.struct fs)) (hh : P.stoodInHeld t = false) (h : ∀ f ∈ fs.toList, SelfEq P l f) (d : Nat) (w : World) :
    (Op.equalIn (d + 2) t (.agg l.toArray) (.agg l.toArray)).run P w = .ok true w := by
  have hf : P.fieldsOf t = fs := by simp [Program.fieldsOf, ht]
  rw [run_equalIn_struct (P := P) w (d + 1) t _ _ (by rw [hf]; exact ht) hh, hf]
  exact eqFields_self d l w _ h
theorem OpVal.eqSelf {t t' ty : TypeId} {x y : Operand} {fs : Array Field} {l : List Value} (hx : ev? ρ x = some (.agg l.toArray)) (hy : ev? ρ y = some (.agg l.toArray)) (ht : P.underlying t = some (.struct fs))
    (hh : P.stoodInHeld t = false) (hg : P.eqGuardType P.depth t = false) (h : ∀ f ∈ fs.toList, SelfEq P l f) : OpVal P n R cx (.binOp .eql t x y t') ty ρ L (.bool true) :=
  .eqOf hx hy fun w => by
    rw [Sem.run_bind, run_eqGuard_agg w _ t x y _ _ hg]
    simp only [Result.andThen_ok]
    rw [run_eql_struct, equal_self ht hh h 9998 w]
    rfl
theorem OpVal.neSelf {t t' ty : TypeId} {x y : Operand} {fs : Array Field} {l : List Value} (hx : ev? ρ x = some (.agg l.toArray)) (hy : ev? ρ y = some (.agg l.toArray)) (ht : P.underlying t = some (.struct fs))
    (hh : P.stoodInHeld t = false) (hg : P.eqGuardType P.depth t = false) (h : ∀ f ∈ fs.toList, SelfEq P l f) : OpVal P n R cx (.binOp .neq t x y t') ty ρ L (.bool false) :=
  .eqOf hx hy fun w => by
    rw [Sem.run_bind, run_eqGuard_agg w _ t x y _ _ hg]
    simp only [Result.andThen_ok]
    rw [run_neq_struct, equal_self ht hh h 9998 w]
    rfl
end
end Go.Sl
