/-
  The program's own '==' on structs and arrays, decided; over any program.
-/
import Derived.Test.YtgipjpiiomgjjaaEq
import Derived.ChangeKeysEq
namespace Go.Sl
open Go
section
variable {P : Program} {n : Nat} {R : HL} {cx : Cx} {ρ : Env} {L : List HL}
def EqD (P : Program) (k : Nat) (t : TypeId) (x y : Value) (b : Bool) : Prop := ∀ (d : Nat) (w : World), (Op.equalIn (d + k) t x y).run P w = .ok b w
theorem EqD.int {t : TypeId} {kk k' : IntKind} {i j : Int} (ht : P.underlying t = some (.int k')) : EqD P 1 t (.int kk i) (.int kk j) (i == j) := fun d w => run_equalIn_int (P := P) w d t kk k' i j ht |>.trans (by simp)
theorem EqD.bool {t : TypeId} {i j : Bool} (ht : P.underlying t = some .bool) : EqD P 1 t (.bool i) (.bool j) (i == j) := fun d w => run_equalIn_bool' (P := P) w d t i j ht
theorem EqD.str {t : TypeId} {i j : ByteArray} (ht : P.underlying t = some .string) : EqD P 1 t (.string i) (.string j) (i.toList == j.toList) := fun d w => run_equalIn_string (P := P) w d t i j ht
theorem EqD.more {t : TypeId} {x y : Value} {k m : Nat} {b : Bool} (h : EqD P k t x y b) (hk : k ≤ m) : EqD P m t x y b := fun d w => by
  have := h (d + (m - k)) w
  rwa [show d + (m - k) + k = d + m from by omega] at this
def FEq (P : Program) (k : Nat) (xs ys : Array Value) (f : Field) (b : Bool) : Prop :=
  f.name ≠ "_" ∧ ∃ u v, (∀ w, (part f.type xs f.offset).run P w = .ok u w) ∧ (∀ w, (part f.type ys f.offset).run P w = .ok v w) ∧ EqD P k f.type u v b
theorem FEq.one {k : Nat} {xs ys : List Value} {f : Field} {u v : Value} {b : Bool} (hn : f.name ≠ "_") (ha : IsAgg P f.type false) (hu : xs[f.offset]? = some u) (hv : ys[f.offset]? = some v) (h : EqD P k f.type u v b) : FEq P k xs.toArray ys.toArray f b :=
  ⟨hn, u, v, fun w => by simp [part, ha w, hu], fun w => by simp [part, ha w, hv], h⟩
theorem FEq.agg {k m : Nat} {xs ys us vs : List Value} {f : Field} {b : Bool} (hn : f.name ≠ "_") (ha : IsAgg P f.type true) (hz : SizeOf P f.type m) (hu : seg? xs f.offset m = some us) (hv : seg? ys f.offset m = some vs)
    (h : EqD P k f.type (.agg us.toArray) (.agg vs.toArray) b) : FEq P k xs.toArray ys.toArray f b := by
  refine ⟨hn, _, _, fun w => ?_, fun w => ?_, h⟩
  · obtain ⟨h1, h2⟩ := seg?_eq _ _ _ hu
    simp [part, ha w, hz w, h2]
  · obtain ⟨h1, h2⟩ := seg?_eq _ _ _ hv
    simp [part, ha w, hz w, h2]
def FEqs (P : Program) (k : Nat) (xs ys : Array Value) : List Field → List Bool → Prop
  | [], bs => bs = []
  | f :: fs, bs => ∃ b bs', bs = b :: bs' ∧ FEq P k xs ys f b ∧ FEqs P k xs ys fs bs'
def FEqT (P : Program) (k : Nat) (xs ys : Array Value) (t : TypeId) (o : Nat) (b : Bool) : Prop :=
  ∃ u v, (∀ w, (part t xs o).run P w = .ok u w) ∧ (∀ w, (part t ys o).run P w = .ok v w) ∧ EqD P k t u v b
theorem FEqT.one {k : Nat} {xs ys : List Value} {t : TypeId} {o : Nat} {u v : Value} {b : Bool} (ha : IsAgg P t false) (hu : xs[o]? = some u) (hv : ys[o]? = some v) (h : EqD P k t u v b) : FEqT P k xs.toArray ys.toArray t o b :=
  ⟨u, v, fun w => by simp [part, ha w, hu], fun w => by simp [part, ha w, hv], h⟩
theorem FEqT.agg {k m : Nat} {xs ys us vs : List Value} {t : TypeId} {o : Nat} {b : Bool} (ha : IsAgg P t true) (hz : SizeOf P t m) (hu : seg? xs o m = some us) (hv : seg? ys o m = some vs)
    (h : EqD P k t (.agg us.toArray) (.agg vs.toArray) b) : FEqT P k xs.toArray ys.toArray t o b := by
  refine ⟨_, _, fun w => ?_, fun w => ?_, h⟩
  · obtain ⟨h1, h2⟩ := seg?_eq _ _ _ hu
    simp [part, ha w, hz w, h2]
  · obtain ⟨h1, h2⟩ := seg?_eq _ _ _ hv
    simp [part, ha w, hz w, h2]
def FSigs (P : Program) (k : Nat) (xs ys : Array Value) : List (Bool × TypeId × Nat) → List Bool → Prop
  | [], bs => bs = []
  | s :: r, bs => ∃ b bs', bs = b :: bs' ∧ s.1 = false ∧ FEqT P k xs ys s.2.1 s.2.2 b ∧ FSigs P k xs ys r bs'
theorem FEqs.of_sig {k : Nat} {xs ys : Array Value} : ∀ {fs : List Field} {sig : List (Bool × TypeId × Nat)} {bs : List Bool}, fs.map (fun f => (f.name == "_", f.type, f.offset)) = sig → FSigs P k xs ys sig bs → FEqs P k xs ys fs bs
  | [], sig, bs, h, hs => by subst h; exact hs
  | f :: fs, sig, bs, h, hs => by
    subst h
    obtain ⟨b, bs', rfl, hn, ⟨u, v, h1, h2, h3⟩, hr⟩ := hs
    exact ⟨b, bs', rfl, ⟨by simpa using hn, u, v, h1, h2, h3⟩, FEqs.of_sig rfl hr⟩
def allB : List Bool → Bool
  | [] => true
  | b :: bs => b && allB bs
theorem eqFields_run {k : Nat} {xs ys : Array Value} (d : Nat) (w : World) : ∀ {fs : List Field} {bs : List Bool}, FEqs P k xs ys fs bs → (Op.eqFields (d + k) xs ys fs).run P w = .ok (allB bs) w
  | [], bs, h => by cases h; rfl
  | f :: fs, bs, h => by
    obtain ⟨b, bs', rfl, ⟨hn, u, v, h1, h2, h3⟩, h4⟩ := h
    have ih := eqFields_run d w h4
    simp only [Op.eqFields, hn, ne_eq, not_false_eq_true, if_true, Sem.run_bind, h1, h2, Result.andThen_ok, h3 d w]
    cases b
    · simp [allB]
    · simpa [allB] using ih
theorem EqD.struct {t : TypeId} {fs : Array Field} {k : Nat} {xs ys : Array Value} {bs : List Bool} (ht : P.underlying t = some (.struct fs)) (hh : P.stoodInHeld t = false) (h : FEqs P k xs ys fs.toList bs) :
    EqD P (k + 1) t (.agg xs) (.agg ys) (allB bs) := fun d w => by
  have hf : P.fieldsOf t = fs := by simp [Program.fieldsOf, ht]
  rw [← Nat.add_assoc, run_equalIn_struct (P := P) w (d + k) t _ _ (by rw [hf]; exact ht) hh, hf]
  exact eqFields_run d w h
theorem eqItems_run {e : TypeId} {kk k' : IntKind} (ha : IsAgg P e false) (he : P.underlying e = some (.int k')) (xs ys : List Int) (d : Nat) (w : World) : ∀ (is : List Nat), (∀ i ∈ is, i < xs.length ∧ i < ys.length) →
    (Op.eqItems (d + 1) e 1 (xs.map (.int kk)).toArray (ys.map (.int kk)).toArray is).run P w = .ok (is.all fun i => xs[i]? == ys[i]?) w
  | [], _ => rfl
  | i :: is, h => by
    obtain ⟨h1, h2⟩ := h i (by simp)
    have ih := eqItems_run (kk := kk) ha he xs ys d w is (fun j hj => h j (by simp [hj]))
    have p1 : (part e (xs.map (.int kk)).toArray (i * 1)).run P w = .ok (.int kk xs[i]) w := by simp [part, ha w, h1]
    have p2 : (part e (ys.map (.int kk)).toArray (i * 1)).run P w = .ok (.int kk ys[i]) w := by simp [part, ha w, h2]
    have p3 := EqD.int (P := P) (t := e) (kk := kk) (k' := k') (i := xs[i]) (j := ys[i]) he d w
    simp only [Op.eqItems, Sem.run_bind, p1, p2, p3, Result.andThen_ok]
    by_cases hx : xs[i] = ys[i]
    · simpa [hx, h1, h2] using ih
    · simp [hx, h1, h2]
theorem all_eq (xs ys : List Int) (h : xs.length = ys.length) : ((List.range xs.length).all fun i => xs[i]? == ys[i]?) = decide (xs = ys) := by
  by_cases he : xs = ys
  · subst he; simp
  · simp only [he, decide_false]
    cases hx : (List.range xs.length).all fun i => xs[i]? == ys[i]? with
    | false => rfl
    | true =>
      exfalso
      apply he
      apply List.ext_getElem?
      intro i
      by_cases hi : i < xs.length
      · have := List.all_eq_true.1 hx i (by simpa using hi)
        simpa using this
      · rw [List.getElem?_eq_none (by omega), List.getElem?_eq_none (by omega)]
theorem EqD.arr {t e : TypeId} {m : Nat} {i : TypeInfo} {kk k' : IntKind} {xs ys : List Int} (hu : P.underlying t = some (.array m e)) (hi : P.info? e = some i) (hc : P.cellsOf e = 1) (ha : IsAgg P e false) (he : P.underlying e = some (.int k'))
    (hx : xs.length = m) (hy : ys.length = m) : EqD P 2 t (.agg (xs.map (.int kk)).toArray) (.agg (ys.map (.int kk)).toArray) (decide (xs = ys)) := fun d w => by
  rw [show d + 2 = d + 1 + 1 from rfl, run_equalIn_array (P := P) w (d + 1) _ _ hu hi, hc, eqItems_run ha he xs ys d w _ (fun i hi => by simp at hi; omega)]
  subst hx
  rw [all_eq xs ys hy.symm]
theorem OpVal.eqD {t t' ty : TypeId} {x y : Operand} {k : Nat} {xs ys : Array Value} {b : Bool} (hx : ev? ρ x = some (.agg xs)) (hy : ev? ρ y = some (.agg ys)) (h : EqD P k t (.agg xs) (.agg ys) b) (hk : k ≤ 10000) (hg : P.eqGuardType P.depth t = false) :
    OpVal P n R cx (.binOp .eql t x y t') ty ρ L (.bool b) :=
  .eqOf hx hy fun w => by
    have h1 := h (10000 - k) w
    rw [show 10000 - k + k = 10000 from by omega] at h1
    rw [Sem.run_bind, run_eqGuard_agg w _ t x y _ _ hg]
    simp only [Result.andThen_ok]
    rw [run_eql_struct, h1]
    rfl
theorem OpVal.neD {t t' ty : TypeId} {x y : Operand} {k : Nat} {xs ys : Array Value} {b : Bool} (hx : ev? ρ x = some (.agg xs)) (hy : ev? ρ y = some (.agg ys)) (h : EqD P k t (.agg xs) (.agg ys) b) (hk : k ≤ 10000) (hg : P.eqGuardType P.depth t = false) :
    OpVal P n R cx (.binOp .neq t x y t') ty ρ L (.bool (!b)) :=
  .eqOf hx hy fun w => by
    have h1 := h (10000 - k) w
    rw [show 10000 - k + k = 10000 from by omega] at h1
    rw [Sem.run_bind, run_eqGuard_agg w _ t x y _ _ hg]
    simp only [Result.andThen_ok]
    rw [run_neq_struct, h1]
    rfl
end
end Go.Sl
