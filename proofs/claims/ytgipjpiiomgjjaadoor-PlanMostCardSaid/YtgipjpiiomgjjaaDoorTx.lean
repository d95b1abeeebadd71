/-
  Strings as lists of bytes: joined, compared; a library call that only lets the heap grow, as a contract; over any program.
-/
import Derived.Test.YtgipjpiiomgjjaaDoorSt
import Derived.Sort.Grow
import Derived.Deep.Draws
import Derived.Lib.LaidTab
namespace Go.Sl
open Go
section
variable {P : Program} {n : Nat} {R : HL} {cx : Cx} {ρ : Env} {L : List HL}
/-- A string of these bytes. -/
abbrev S8 (l : List UInt8) : Value := .string ⟨l.toArray⟩
theorem s8_append (a b : List UInt8) : (⟨a.toArray⟩ ++ ⟨b.toArray⟩ : ByteArray) = ⟨(a ++ b).toArray⟩ := by
  apply ByteArray.ext
  simp
theorem s8_eq (a b : List UInt8) : ((⟨a.toArray⟩ : ByteArray).toList == (⟨b.toArray⟩ : ByteArray).toList) = decide (a = b) := by
  rw [ByteArray.toList_mk, ByteArray.toList_mk, Bool.beq_eq_decide_eq]
theorem OpVal.addS {t t' ty : TypeId} {x y : Operand} {a b : List UInt8} (hx : ev? ρ x = some (S8 a)) (hy : ev? ρ y = some (S8 b)) (hs : a.length + b.length ≤ 9223372036854775807) :
    OpVal P n R cx (.binOp .add t x y t') ty ρ L (S8 (a ++ b)) := by
  refine .eqOf hx hy fun w => ?_
  have h1 : ¬ (((⟨a.toArray⟩ : ByteArray).size + (⟨b.toArray⟩ : ByteArray).size : Nat) : Int) > IntKind.i64.max := by
    simp only [ByteArray.size, List.size_toArray, IntKind.max]
    have : (2 : Int) ^ 63 = 9223372036854775808 := by decide
    simp [IntKind.bits, IntKind.signed]
    omega
  simp only [eqGuard, binOp, Op.stringOp, if_neg h1, Sem.run_bind, Sem.run_pure, Result.andThen_ok, s8_append]
  rfl
theorem OpVal.eqS {t t' ty : TypeId} {x y : Operand} {a b : List UInt8} (hx : ev? ρ x = some (S8 a)) (hy : ev? ρ y = some (S8 b)) :
    OpVal P n R cx (.binOp .eql t x y t') ty ρ L (.bool (decide (a = b))) := by
  have := OpVal.eqStr (P := P) (n := n) (R := R) (cx := cx) (L := L) (t := t) (t' := t') (ty := ty) hx hy
  rwa [s8_eq] at this
theorem St.grow {w : World} {ro : HL} (hro : ∀ p ∈ ro, w.heap[p.1]? = some p.2) (k : Nat) (os : Array Obj) : St w (ids ([] : List HL).flatten) ro [] (Go.Sort.grow (w.drewN k) os) := by
  refine ⟨fun _ h => by simp at h, by simp [ids], fun b hb _ => ?_, fun _ h => by simp [ids] at h, by simp [Go.Sort.grow, World.drewN], fun p hp => ⟨hro p hp, by simp [ids]⟩, ⟨rfl, rfl, rfl⟩⟩
  simp only [Go.Sort.grow, World.drewN]
  rw [Array.getElem?_append_left hb]
theorem Ctr.lib {f : FuncId} {args : List Value} {ro : HL} {v : Value} (hc : ∀ (args : Array Value) (w : World), (callFunc f args).run P w = .ok (.enter f args) w)
    (h : ∀ w, (∀ p ∈ ro, w.heap[p.1]? = some p.2) → Calls P f args.toArray w fun e w' => e = .returned v ∧ ∃ k os, w' = Go.Sort.grow (w.drewN k) os) : Ctr P f args [] ro (fun u L' => u = v ∧ L' = []) := by
  refine ⟨hc, fun w _ _ hro => (h w fun p hp => (hro p hp).1).mono ?_⟩
  rintro e w' ⟨rfl, k, os, rfl⟩
  exact ⟨v, [], rfl, ⟨rfl, rfl⟩, St.grow (fun p hp => (hro p hp).1) k os⟩
/-- A table of the library's, as a block that is read. -/
theorem tabIs_of_ro {w : World} {name : String} {g : Nat} {k : IntKind} {zs : List Int} {e : TypeId} {fr : Nat × Nat} (hg : P.globalNamed name = some g)
    (h : w.heap[g]? = some (.cells (zs.map fun z => Value.int k z).toArray e fr)) : Lib.TabIs P w name k zs := by
  unfold Lib.TabIs World.var?
  rw [hg]
  simp [h]
/-- The rest of a slice, from a place on. -/
theorem OpVal.back {T : Tab} (hT : TabOk P T) {t e ty : TypeId} {x y : Operand} {a : Option Addr} {len cap m l : Nat} {ag : Bool} {kk : IntKind} {i : Int}
    (hx : ev? ρ x = some (.slice a len cap)) (ht : look? T.sls t = some e) (hz : look? T.tys e = some (ag, m)) (hy : ev? ρ y = some (.int kk i)) (hi : i = (l : Int)) (h1 : l ≤ len) (h2 : len ≤ cap) :
    OpVal P n R cx (.slice t x (some y) none none) ty ρ L (.slice (a.map fun ad => if cap = l then ad else ad.add (l * m)) (len - l) (cap - l)) := by
  subst hi
  refine ⟨fun oo ac w ho hty hf hs => ?_⟩
  have hu := hT.sls _ (look?_mem ht)
  have hz' := (hT.tys _ (look?_mem hz)).2
  have bnd : ∀ (cd : BoundsCode), (Instr.sliceBound (ac.eval y) len cd).run P w = .ok l w := by
    intro cd
    simp [Instr.sliceBound, hf.ev hy, asIntOf, h1]
  have hne : (a.map fun ad => if cap = l then ad else ad.add (l * m)) = if cap = l then a else a.map (·.add (l * m)) := by cases a <;> split <;> simp
  rw [hne]
  unfold execOp; rw [ho]
  cases a <;> simp [Instr.sliceAt, Instr.slice, Instr.sliceBounds, underlying, hu, hf.ev hx, hz' w, bnd]
theorem RoSl.drop {α : Type} {f : α → List Value} {m : Nat} (hf : ∀ x, (f x).length = m) {xs : List α} {a : Option Addr} {ro : HL} {cap : Nat} (h : RoSl m (xs.flatMap f) a xs.length ro) (l : Nat) (hl : l ≤ xs.length) :
    RoSl m ((xs.drop l).flatMap f) (a.map fun ad => if cap = l then ad else ad.add (l * m)) (xs.length - l) ro ∨ (cap = l ∧ l < xs.length) := by
  by_cases hcl : cap = l ∧ l < xs.length
  · exact .inr hcl
  refine .inl ⟨by rw [flatMap_len f m hf, List.length_drop], ?_⟩
  rcases h.2 with ⟨h1, h2⟩ | ⟨b, off, q, e', fr, h1, h2, h3, h4⟩
  · exact .inl ⟨by omega, h2⟩
  · have e1 : xs.length * m = l * m + (xs.length - l) * m := by rw [← Nat.add_mul]; congr 1; omega
    by_cases hc : cap = l
    · have hll : l = xs.length := by omega
      refine .inr ⟨b, off, q, e', fr, by rw [h1]; simp [hc], h2, by omega, ?_⟩
      rw [hll]
      simp
    · refine .inr ⟨b, off + l * m, q, e', fr, by rw [h1]; simp [hc, Addr.add], h2, by omega, ?_⟩
      have e2 : xs.flatMap f = (xs.take l).flatMap f ++ (xs.drop l).flatMap f := by rw [← List.flatMap_append, List.take_append_drop]
      have e3 : ((xs.take l).flatMap f).length = l * m := by rw [flatMap_len f m hf, List.length_take]; congr 1; omega
      have e4 : (xs.drop l).flatMap f = (xs.flatMap f).drop (l * m) := by rw [e2, ← e3, List.drop_left]
      rw [e4, ← h4, List.drop_take, List.drop_drop]
      congr 1
      omega
end
end Go.Sl
