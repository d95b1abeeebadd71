/-
  Strings as lists of bytes: joined, compared; a library call that only lets the heap grow, as a contract; over any program.
-/
import Derived.Test.YtpimbaphenignaaSt
import Derived.Test.YtpimbaphenignaaMp
import Derived.Sort.Grow
import Derived.Deep.Draws
import Derived.Lib.LaidTab
namespace Go.Sl
set_option linter.unusedVariables false
open Go
section
variable {P : Program} {n : Nat} {R : HL} {cx : Cx} {ρ : Env} {L : List HL}
/-- A string of these bytes. -/
abbrev S8 (l : List UInt8) : Value := .string ⟨l.toArray⟩
theorem s8_append (a b : List UInt8) : (⟨a.toArray⟩ ++ ⟨b.toArray⟩ : ByteArray) = ⟨(a ++ b).toArray⟩ := by
  apply ByteArray.ext
  simp
theorem s8_eq (a b : List UInt8) : ((⟨a.toArray⟩ : ByteArray).toList == (⟨b.toArray⟩ : ByteArray).toList) = decide (a = b) := by
  rw [ByteArray.toList_mk, ByteArray.toList_mk, Bool.beq_eq_decide_eq]
theorem OpVal.addS {t t' ty : TypeId} {x y : Operand} {a b : List UInt8} (hx : ev? ρ x = some (S8 a)) (hy : ev? ρ y = some (S8 b)) (hs : a.length + b.length ≤ 9223372036854775807) :
    OpVal P n R cx (.binOp .add t x y t') ty ρ L (S8 (a ++ b)) := by
  refine .eqOf hx hy fun w => ?_
  have h1 : ¬ (((⟨a.toArray⟩ : ByteArray).size + (⟨b.toArray⟩ : ByteArray).size : Nat) : Int) > IntKind.i64.max := by
    simp only [ByteArray.size, List.size_toArray, IntKind.max]
    have : (2 : Int) ^ 63 = 9223372036854775808 := by decide
    simp [IntKind.bits, IntKind.signed]
    omega
  simp only [eqGuard, binOp, Op.stringOp, if_neg h1, Sem.run_bind, Sem.run_pure, s8_append]
  rfl
theorem OpVal.eqS {t t' ty : TypeId} {x y : Operand} {a b : List UInt8} (hx : ev? ρ x = some (S8 a)) (hy : ev? ρ y = some (S8 b)) :
    OpVal P n R cx (.binOp .eql t x y t') ty ρ L (.bool (decide (a = b))) := by
  have := OpVal.eqStr (P := P) (n := n) (R := R) (cx := cx) (L := L) (t := t) (t' := t') (ty := ty) hx hy
  rwa [s8_eq] at this
theorem St.grow {w : World} {ro : HL} (hro : ∀ p ∈ ro, w.heap[p.1]? = some p.2) (k : Nat) (os : Array Obj) : St w (ids ([] : List HL).flatten) ro [] (Go.Sort.grow (w.drewN k) os) := by
  refine ⟨fun _ h => by simp at h, by simp [ids], fun b hb _ => ?_, fun _ h => by simp [ids] at h, by simp [Go.Sort.grow, World.drewN], fun p hp => ⟨hro p hp, by simp [ids]⟩, ⟨rfl, rfl, rfl⟩⟩
  simp only [Go.Sort.grow, World.drewN]
  rw [Array.getElem?_append_left hb]
theorem Ctr.lib {f : FuncId} {args : List Value} {ro : HL} {v : Value} (hc : ∀ (args : Array Value) (w : World), (callFunc f args).run P w = .ok (.enter f args) w)
    (h : ∀ w, (∀ p ∈ ro, w.heap[p.1]? = some p.2) → Calls P f args.toArray w fun e w' => e = .returned v ∧ ∃ k os, w' = Go.Sort.grow (w.drewN k) os) : Ctr P f args [] ro (fun u L' => u = v ∧ L' = []) := by
  refine ⟨hc, fun w _ _ hro => (h w fun p hp => (hro p hp).1).mono ?_⟩
  rintro e w' ⟨rfl, k, os, rfl⟩
  exact ⟨v, [], rfl, ⟨rfl, rfl⟩, St.grow (fun p hp => (hro p hp).1) k os⟩
/-- A table of the library's, as a block that is read. -/
theorem tabIs_of_ro {w : World} {name : String} {g : Nat} {k : IntKind} {zs : List Int} {e : TypeId} {fr : Nat × Nat} (hg : P.globalNamed name = some g)
    (h : w.heap[g]? = some (.cells (zs.map fun z => Value.int k z).toArray e fr)) : Lib.TabIs P w name k zs := by
  unfold Lib.TabIs World.var?
  rw [hg]
  simp [h]
/-- The rest of a slice, from a place on. -/
theorem OpVal.back {T : Tab} (hT : TabOk P T) {t e ty : TypeId} {x y : Operand} {a : Option Addr} {len cap m l : Nat} {ag : Bool} {kk : IntKind} {i : Int}
    (hx : ev? ρ x = some (.slice a len cap)) (ht : look? T.sls t = some e) (hz : look? T.tys e = some (ag, m)) (hy : ev? ρ y = some (.int kk i)) (hi : i = (l : Int)) (h1 : l ≤ len) (h2 : len ≤ cap) :
    OpVal P n R cx (.slice t x (some y) none none) ty ρ L (.slice (a.map fun ad => if cap = l then ad else ad.add (l * m)) (len - l) (cap - l)) := by
  subst hi
  refine ⟨fun oo ac w ho hty hf hs => ?_⟩
  have hu := hT.sls _ (look?_mem ht)
  have hz' := (hT.tys _ (look?_mem hz)).2
  have bnd : ∀ (cd : BoundsCode), (Instr.sliceBound (ac.eval y) len cd).run P w = .ok l w := by
    intro cd
    simp [Instr.sliceBound, hf.ev hy, asIntOf, h1]
  have hne : (a.map fun ad => if cap = l then ad else ad.add (l * m)) = if cap = l then a else a.map (·.add (l * m)) := by cases a <;> split <;> simp
  rw [hne]
  unfold execOp; rw [ho]
  cases a <;> simp [Instr.sliceAt, Instr.slice, Instr.sliceBounds, underlying, hu, hf.ev hx, hz' w, bnd]
theorem RoSl.drop {α : Type} {f : α → List Value} {m : Nat} (hf : ∀ x, (f x).length = m) {xs : List α} {a : Option Addr} {ro : HL} {cap : Nat} (h : RoSl m (xs.flatMap f) a xs.length ro) (l : Nat) (hl : l ≤ xs.length) :
    RoSl m ((xs.drop l).flatMap f) (a.map fun ad => if cap = l then ad else ad.add (l * m)) (xs.length - l) ro ∨ (cap = l ∧ l < xs.length) := by
  by_cases hcl : cap = l ∧ l < xs.length
  · exact .inr hcl
  refine .inl ⟨by rw [flatMap_len f m hf, List.length_drop], ?_⟩
  rcases h.2 with ⟨h1, h2⟩ | ⟨b, off, q, e', fr, h1, h2, h3, h4⟩
  · exact .inl ⟨by omega, h2⟩
  · have e1 : xs.length * m = l * m + (xs.length - l) * m := by rw [← Nat.add_mul]; congr 1; omega
    by_cases hc : cap = l
    · have hll : l = xs.length := by omega
      refine .inr ⟨b, off, q, e', fr, by rw [h1]; simp [hc], h2, by omega, ?_⟩
      rw [hll]
      simp
    · refine .inr ⟨b, off + l * m, q, e', fr, by rw [h1]; simp [hc, Addr.add], h2, by omega, ?_⟩
      have e2 : xs.flatMap f = (xs.take l).flatMap f ++ (xs.drop l).flatMap f := by rw [← List.flatMap_append, List.take_append_drop]
      have e3 : ((xs.take l).flatMap f).length = l * m := by rw [flatMap_len f m hf, List.length_take]; congr 1; omega
      have e4 : (xs.drop l).flatMap f = (xs.flatMap f).drop (l * m) := by rw [e2, ← e3, List.drop_left]
      rw [e4, ← h4, List.drop_take, List.drop_drop]
      congr 1
      omega
/-- A map's entry that is there. -/
theorem OpVal.lookup1 {α : Type} {f : α → Value} {t kt et ty : TypeId} {x y : Operand} {b clock : Nat} {es : Array MapEntry} {m : List (Int × α)} {kk : IntKind} {key : Int} {u : α}
    (ht : P.underlying t = some (.map kt et)) (hk : P.underlying kt = some (.int kk)) (hx : ev? ρ x = some (.map (some b))) (hy : ev? ρ y = some (.int kk key))
    (hb : At R L b (.map es clock)) (hm : MapIs kk f es.toList m) (hu : mget m key = some u) :
    OpVal P n R cx (.lookup t x y false) ty ρ L (f u) := by
  refine ⟨fun oo a w ho hty hf hs => ?_⟩
  have hg := MapKept.run_getObj_map (P := P) (hb.heap hs)
  have hck := fun e => MapKept.run_checkKey (P := P) (w := w) (k := .int kk key) hk (by simp [MapKept.IsKey]) e 9999
  unfold execOp; rw [ho]
  rcases find_spec (k' := kk) key es.toList m 0 hm with ⟨g1, g2, _, _⟩ | ⟨j, v, e, g1, g2, _, _, _, _, _⟩
  · rw [hu] at g1; cases g1
  · rw [hu] at g1
    cases g1
    simp [Instr.lookup, hf.ev hx, hf.ev hy, run_underlying ht, hg, hck, MapKept.run_findKey hk g2, Result.andThen]
theorem WD.callV {ops : Array Oper} {K : Env → List HL → Prop} {el : List Kd} {fl : List (Nat × Obj)} {Y : List HL} {d : Nat} {c : Call} {ty : TypeId} {pos : String} {af : Array Edge} {l : List Oper} {fo : Operand} {xs : Array Operand} {tys : Array TypeId}
    {fv : Value} {vs : List Value} {pre rest : List HL} {ro : HL} {post : Value → List HL → Prop}
    (hc : c = ⟨.value fo, xs, tys⟩) (hfo : ev? ρ fo = some fv) (hxs : evs? ρ xs.toList = some vs)
    (hsp : CtrV P fv vs pre ro post) (hsel : Sel Y pre rest) (hro : RoIn R rest ro) (hd : d < n)
    (hk : ∀ v L', post v L' → WD P n R cx ops el fl l ((d, v) :: ρ) (L' ++ rest) K) :
    WD P n R cx ops (.b true :: el) fl (⟨some d, .call c, ty, pos, af, none⟩ :: l) ρ Y K := by
  refine WD.act rfl fun a w hf hs => ?_
  have hxs' := hf.evs hxs
  have hx : xs.map a.eval = vs.toArray := by cases xs; simp at hxs'; simp [hxs']
  subst hc
  obtain ⟨f, args', hrun, hctr⟩ := hsp.go
  have hr : (execOp a.eval ⟨some d, .call ⟨.value fo, xs, tys⟩, ty, pos, af, none⟩).run P w = .ok (.enter f args'.toArray) w := by
    unfold execOp
    simp only [resolve, hf.ev hfo, hx]
    exact hrun w
  refine .inr (.inr ⟨_, _, _, hr, (hctr.use2 hs hsel hro).mono ?_⟩)
  rintro e w' ⟨v, L', rfl, hpost, hst⟩
  exact ⟨v, rfl, _, _, hf.put hd v, hst, hk v L' hpost⟩
/-- What is read may be owned. -/
theorem Ctr.own {f : FuncId} {args : List Value} {pre : List HL} {ro ro1 H : HL} {post : Value → List HL → Prop} (h : Ctr P f args pre ro post) (hr : ∀ p ∈ ro, p ∈ H ∨ p ∈ ro1) :
    Ctr P f args (pre ++ [H]) ro1 (fun v L' => ∃ L1, L' = L1 ++ [H] ∧ post v L1) := by
  refine ⟨h.callable, fun w hhas hnd hro => ?_⟩
  have hst : St w (ids (pre ++ [H]).flatten) ro1 (pre ++ [H]) w := ⟨hhas, hnd, fun _ _ _ => rfl, fun b hb => .inl hb, Nat.le_refl _, hro, ⟨rfl, rfl, rfl⟩⟩
  refine (h.use hst (Sel.front pre [H]) (fun p hp => (hr p hp).imp (fun h => by simpa using h) id)).mono ?_
  rintro e w' ⟨v, L', he, hp, hs⟩
  exact ⟨v, L' ++ [H], he, ⟨L', rfl, hp⟩, hs⟩
theorem Ctr.ro {f : FuncId} {args : List Value} {pre : List HL} {ro ro1 : HL} {post : Value → List HL → Prop} (h : Ctr P f args pre ro post) (hr : ∀ p ∈ ro, p ∈ ro1) : Ctr P f args pre ro1 post :=
  ⟨h.callable, fun w h1 h2 h3 => (h.go w h1 h2 fun p hp => h3 p (hr p hp)).mono fun e w' ⟨v, L', e1, e2, e3⟩ => ⟨v, L', e1, e2, ⟨e3.has, e3.nd, e3.fr, e3.own, e3.sz, fun p hp => h3 p hp, e3.env⟩⟩⟩
/-- The chunks that are taken, chosen out of more, in another row. -/
theorem Ctr.sel {f : FuncId} {args : List Value} {pre pre' X : List HL} {ro : HL} {post : Value → List HL → Prop} (h : Ctr P f args pre ro post) (hsel : Sel pre' pre X) (hro : ∀ p ∈ ro, p ∈ ro) :
    Ctr P f args pre' ro (fun v L' => ∃ L1, L' = L1 ++ X ∧ post v L1) := by
  refine ⟨h.callable, fun w hhas hnd hr => ?_⟩
  have hst : St w (ids pre'.flatten) ro pre' w := ⟨hhas, hnd, fun _ _ _ => rfl, fun b hb => .inl hb, Nat.le_refl _, hr, ⟨rfl, rfl, rfl⟩⟩
  refine (h.use hst hsel (fun p hp => .inr hp)).mono ?_
  rintro e w' ⟨v, L', he, hp, hs⟩
  exact ⟨v, L' ++ X, he, ⟨L', rfl, hp⟩, hs⟩
/-- An entry of a map's literal. -/
theorem mapIns {α : Type} {f : α → Value} {t kt et ty : TypeId} {x y u : Operand} {b : Nat} {m : List (Int × α)} {kk : IntKind} {key : Int} {v : α} {H : HL}
    (ht : P.underlying t = some (.map kt et)) (hk : P.underlying kt = some (.int kk)) (hx : ev? ρ x = some (.map (some b))) (hy : ev? ρ y = some (.int kk key)) (hu : ev? ρ u = some (f v))
    (hH : ∀ p ∈ H, p ∈ L.flatten) (hm : IsMp kk f m b H) : Skips P n R cx (.insert t x y u) ty ρ L [H] (fun L' => ∃ H', L' = [H'] ∧ IsMp kk f (mput m key v) b H') := by
  have h := mapPut (P := P) (n := n) (R := R) (cx := cx) (ty := ty) ht hk hx hy hu hH hm
  refine ⟨fun oo a w ho hty hf hs => ?_⟩
  have h1 := h.go { oo with op := .mapUpdate t x y u } a w rfl hty hf hs
  have e : execOp a.eval oo = execOp a.eval { oo with op := .mapUpdate t x y u } := by unfold execOp; rw [ho]
  rw [e]
  exact h1
/-- What is given, in other chunks, or a part of it. -/
theorem Ctr.out {f : FuncId} {args : List Value} {pre : List HL} {ro : HL} {post post' : Value → List HL → Prop} (h : Ctr P f args pre ro post) (hp : ∀ v L', post v L' → ∃ M N X, Sel L' M X ∧ M.flatten = N.flatten ∧ post' v N) : Ctr P f args pre ro post' := by
  refine ⟨h.callable, fun w hhas hnd hro => (h.go w hhas hnd hro).mono ?_⟩
  rintro e w' ⟨v, L', he, hq, hs⟩
  obtain ⟨M, N, X, h1, h2, h3⟩ := hp v L' hq
  refine ⟨v, N, he, h3, hs.perm (X := X.flatten) ?_⟩
  rw [← h2]
  exact h1.perm
/-- append, of bytes. -/
theorem appU8 {T : Tab} (hT : TabOk P T) {t e bytes ty : Nat} {s x : Operand} {xs ys : List Int} {a ax : Option Addr} {cap cxx : Nat} {H ro : HL}
    (ht : look? T.sls t = some e) (hi : look? T.infs e = some (1, bytes)) (hs : ev? ρ s = some (.slice a xs.length cap)) (ho : Own 1 e (u8s xs) a xs.length cap H) (hH : ∀ p ∈ H, p ∈ L.flatten)
    (hx : ev? ρ x = some (.slice ax ys.length cxx)) (hr : RoSl 1 (u8s ys) ax ys.length ro) (hro : ∀ p ∈ ro, At R L p.1 p.2) (hbig : (xs.length + ys.length) * bytes ≤ 140737488355328) (hbig2 : xs.length + ys.length ≤ 140737488355328) :
    Prim P n R cx (.call ⟨.builtin .append, #[s, x], #[t, t]⟩) ty ρ L [H] (fun v L' => ∃ a' cap' H', v = .slice a' (xs ++ ys).length cap' ∧ L' = [H'] ∧ Own 1 e (u8s (xs ++ ys)) a' (xs ++ ys).length cap' H') :=
  (appRo hT ht hi hs ho hH hx hr hro (u8s_one _) hbig hbig2).post fun v L' ⟨a', c', H', e1, e2, e3⟩ => ⟨a', c', H', by rw [e1, List.length_append], e2, by rw [u8s_append, List.length_append]; exact e3⟩
end
end Go.Sl
