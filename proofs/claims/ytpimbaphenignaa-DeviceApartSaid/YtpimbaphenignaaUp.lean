/-
  A store into one of several blocks that a drawn region has made at once.
-/
import Derived.Test.YtpimbaphenignaaAp
namespace Go.Sl
open Go
theorem Lf.congr {Y M L' : List HL} {w w' : World} (h : Y.flatten = M.flatten) (hl : Lf M L' w w') : Lf Y L' w w' := by
  unfold Lf at *
  rw [h]
  exact hl
theorem WD.storeR {P : Program} {n : Nat} {R : HL} {cx : Cx} {ops : Array Oper} {K : Env → List HL → Prop} {el : List Kd} {fl : List (Nat × Obj)} {ρ : Env} {Y M : List HL} {T : Tab} (hT : TabOk P T) {l : List Oper} {t ty : TypeId} {x y : Operand} {pos : String} {af : Array Edge} {b off m : Nat} {ag : Bool} {L' : List HL} {cl cl' vs : List Value} {e : TypeId} {v : Value}
    (hY : Y.flatten = M.flatten) (hx : ev? ρ x = some (.pointer (some ⟨b, off, none⟩))) (hu : Upd b (.cells cl.toArray e (0, 0)) (.cells cl'.toArray e (0, 0)) M L')
    (hy : ev? ρ y = some v) (hc : cells? v = some vs) (hz : look? T.tys t = some (ag, m)) (hl : vs.length = m) (h1 : allOne vs = true)
    (hv : splice? cl off vs = some cl')
    (hk : WD P n R cx ops el fl l ρ L' K) : WD P n R cx ops (.b true :: el) fl (⟨none, .store t x y, ty, pos, af, none⟩ :: l) ρ Y K := by
  refine WD.act rfl fun a w hf hs0 => ?_
  have hs : St cx.w0 cx.S0 R M w := hs0.perm (X := []) (by rw [hY]; simp)
  obtain ⟨A, B, e1, -⟩ := hu.split
  have hb : w.heap[b]? = some (.cells cl.toArray e (0, 0)) := hs.has (b, .cells cl.toArray e (0, 0)) (by rw [e1]; simp)
  have hst := run_storeCells_splice (P := P) hb hv h1
  have hcs := cells?_eq hc
  have hz' := (hT.tys _ (look?_mem hz)).2
  have hr : (execOp a.eval ⟨none, .store t x y, ty, pos, af, none⟩).run P w = .ok .skip (w.setRow b cl'.toArray) := by
    unfold execOp
    simp [hf.ev hx, hf.ev hy, Instr.storeAt, Instr.sureAddr, storeVar, hz' w, hcs, hl, hst]
  exact .inr (.inl ⟨_, hr, _, _, by simpa [Act.put] using hf, ⟨hs.upd hu (setRow_heap w b _ _ e _ hb) (fun j hj => setRow_other w b j _ hj) (setRow_size ..) ⟨rfl, rfl, rfl⟩, Lf.congr hY (Lf.upd hu (fun j hj => setRow_other w b j _ hj) (setRow_size ..))⟩, hk⟩)
/-- A guarded call that only reads. -/
theorem WD.guardGoCallQ {P : Program} {n : Nat} {R : HL} {cx : Cx} {ops : Array Oper} {K : Env → List HL → Prop} {el : List Kd} {fl : List (Nat × Obj)} {ρ : Env} {Y : List HL} {d : Nat} {c : Call} {ty : TypeId} {pos : String} {af : Array Edge} {l : List Oper} {j s : Nat} {want b : Bool} {fo : Operand} {xs : Array Operand} {tys : Array TypeId}
    {f : FuncId} {fst vs cap args : List Value} {ro : HL} {post : Value → List HL → Prop} (v0 : Value)
    (hj : (ops[j]?).bind (·.dst) = some s) (hb : ρ.get? s = some (.bool b)) (hw : b = want)
    (hc : c = ⟨.value fo, xs, tys⟩) (hfo : ev? ρ fo = some (.func (.func f) fst.toArray cap.toArray)) (hxs : evs? ρ xs.toList = some vs) (hargs : fst ++ vs ++ cap = args) (hi : P.inits.idxOf? f = none)
    (hsp : Ctr P f args [] ro post) (hv : ∀ v L', post v L' → v = v0) (hro : ∀ p ∈ ro, p ∈ R) (hd : d < n)
    (hk : WD P n R cx ops el fl l ((d, v0) :: ρ) Y K) :
    WD P n R cx ops (.b false :: el) fl (⟨some d, .call c, ty, pos, af, some (j, want)⟩ :: l) ρ Y K := by
  refine WD.guardGo hj hb hw fun E F i a h3 hf hwt => ⟨v0, .inl ⟨hwt, fun Y w hs => .inr ⟨f, args.toArray, w, ?_, hi, hsp.quiet hv hro hs⟩⟩, hk.go E F (i + 1) _ h3 (hf.put hd v0)⟩
  have hxs' := hf.evs hxs
  have hx : xs.map a.eval = vs.toArray := by cases xs; simp at hxs'; simp [hxs']
  unfold execOp
  subst hc
  have hcall := hsp.callable
  simp only [resolve, Deferred.ofValue, hf.ev hfo, hx, Sem.run_bind, Sem.run_pure, Result.andThen_ok, invoke]
  rw [show (fst.toArray ++ vs.toArray ++ cap.toArray) = args.toArray from by rw [← hargs]; simp, hcall]
/-- A guarded operation that reads what an acting one has just made. -/
theorem WD.guardGoA {P : Program} {n : Nat} {R : HL} {cx : Cx} {ops : Array Oper} {K : Env → List HL → Prop} {el : List Kd} {fl : List (Nat × Obj)} {ρ : Env} {Y : List HL} {d : Nat} {op : Op} {ty : TypeId} {pos : String} {af : Array Edge} {l : List Oper} {j s : Nat} {want b : Bool} {v : Value}
    (hj : (ops[j]?).bind (·.dst) = some s) (hb : ρ.get? s = some (.bool b)) (hw : b = want) (h : OpVal P n R cx op ty ρ Y v) (hd : d < n) (hk : WD P n R cx ops el fl l ((d, v) :: ρ) Y K) :
    WD P n R cx ops (.b true :: el) fl (⟨some d, op, ty, pos, af, some (j, want)⟩ :: l) ρ Y K :=
  WD.guardGo hj hb hw fun E F i a h3 hf hwt => .inl ⟨hwt, fun w hs => .inl ⟨_, _, h.go ⟨some d, op, ty, pos, af, some (j, want)⟩ a w rfl rfl hf hs, Y, ⟨hs, Lf.rfl'⟩, hk.go E F (i + 1) _ h3 (hf.put hd v)⟩⟩
end Go.Sl
namespace Go.Proofs.Ytpimbaphenignaa
open Go Go.Sl
theorem dSb {n : Nat} {R : HL} {cx : Cx} {ρ ρ' : Env} {Y Y' M : List HL} {ops : Array Oper} {K : Env → List HL → Prop} {el el' : List Kd} {fl : List (Nat × Obj)} {ty t : TypeId} {x y : Operand} {pos : String} {af : Array Edge} {l l' : List Oper} {v : Value}
    {b off m : Nat} {lv cl' vs : List Value} {e : TypeId} {ag : Bool} {L2 : List HL} (i : Nat) (h : WD Try.prog n R cx ops el' fl l' ρ' Y' K) (hM : burstAt? i Y = some M := by exact rfl) (hx : ev? ρ x = some (.pointer (some ⟨b, off, none⟩)) := by exact rfl)
    (hu : Upd b (.cells lv.toArray e (0, 0)) (.cells cl'.toArray e (0, 0)) M L2 := by repeat (first | exact Upd.here | apply Upd.there))
    (hy : ev? ρ y = some v := by exact rfl) (hc : cells? v = some vs := by exact rfl) (hz : look? tab.tys t = some (ag, m) := by exact rfl) (hl : vs.length = m := by exact rfl) (ho : allOne vs = true := by exact rfl)
    (hv : splice? lv off vs = some cl' := by exact rfl) (h1 : ddrive tab n el l ρ = some (el', l', ρ') := by exact rfl) (h2 : norm? L2 = some Y' := by exact rfl) :
    WD Try.prog n R cx ops (.b true :: el) fl (⟨none, .store t x y, ty, pos, af, none⟩ :: l) ρ Y K := WD.storeR tab_ok (burstAt?_flat hM) hx hu hy hc hz hl ho hv (WD.step tab_ok h1 h2 h)
theorem dQg {n : Nat} {R : HL} {cx : Cx} {ρ ρ' : Env} {Y Y' : List HL} {ops : Array Oper} {K : Env → List HL → Prop} {el el' : List Kd} {fl : List (Nat × Obj)} {d : Nat} {ty : TypeId} {pos : String} {af : Array Edge} {l l' : List Oper} {v : Value} {j sl : Nat} {want bb : Bool} {ro : HL} {post : Value → List HL → Prop} {cc : Call} {fo : Operand} {xs : Array Operand} {tys : Array TypeId} {f : FuncId} {fst us cap args : List Value}
    (hj : (ops[j]?).bind (·.dst) = some sl := by exact rfl) (hb : ρ.get? sl = some (.bool bb) := by exact rfl) (hw : bb = want := by first | rfl | exact dt ‹_› | exact df ‹_› | exact ndT ‹_› | exact ndF ‹_› | (simp; done) | exact dt (by omega) | exact df (by omega) | exact ndT (by omega) | exact ndF (by omega) | omega)
    (hc : cc = ⟨.value fo, xs, tys⟩ := by exact rfl) (hfo : ev? ρ fo = some (.func (.func f) fst.toArray cap.toArray) := by exact rfl) (hxs : evs? ρ xs.toList = some us := by exact rfl) (hargs : fst ++ us ++ cap = args := by exact rfl)
    (hi : Try.prog.inits.idxOf? f = none := by kernel_rfl) (o : Ctr Try.prog f args [] ro post) (h : WD Try.prog n R cx ops el' fl l' ρ' Y' K) (hv : ∀ u L', post u L' → u = v := by (rintro _ _ ⟨rfl, _⟩; rfl)) (hro : ∀ p ∈ ro, p ∈ R := by first | (intro p hp; cases hp; done) | (intro p hp; simpa using hp) | (intro p hp; simp at hp ⊢; simp [hp]; done)) (hd : d < n := by exact lb rfl)
    (h1 : ddrive tab n el l ((d, v) :: ρ) = some (el', l', ρ') := by exact rfl) (h2 : norm? Y = some Y' := by exact rfl) :
    WD Try.prog n R cx ops (.b false :: el) fl (⟨some d, .call cc, ty, pos, af, some (j, want)⟩ :: l) ρ Y K := WD.guardGoCallQ v hj hb hw hc hfo hxs hargs hi o hv hro hd (WD.step tab_ok h1 h2 h)
theorem dVg {n : Nat} {R : HL} {cx : Cx} {ρ ρ' : Env} {Y Y' : List HL} {ops : Array Oper} {K : Env → List HL → Prop} {el el' : List Kd} {fl : List (Nat × Obj)} {d : Nat} {ty : TypeId} {pos : String} {af : Array Edge} {l l' : List Oper} {v : Value} {j sl : Nat} {want bb : Bool} {op : Op} (o : OpVal Try.prog n R cx op ty ρ Y v) (h : WD Try.prog n R cx ops el' fl l' ρ' Y' K)
    (hj : (ops[j]?).bind (·.dst) = some sl := by exact rfl) (hb : ρ.get? sl = some (.bool bb) := by exact rfl) (hw : bb = want := by first | rfl | exact dt ‹_› | exact df ‹_› | exact ndT ‹_› | exact ndF ‹_› | (simp; done) | exact dt (by omega) | exact df (by omega) | exact ndT (by omega) | exact ndF (by omega) | omega) (hd : d < n := by exact lb rfl)
    (h1 : ddrive tab n el l ((d, v) :: ρ) = some (el', l', ρ') := by exact rfl) (h2 : norm? Y = some Y' := by exact rfl) :
    WD Try.prog n R cx ops (.b true :: el) fl (⟨some d, op, ty, pos, af, some (j, want)⟩ :: l) ρ Y K := WD.guardGoA hj hb hw o hd (WD.step tab_ok h1 h2 h)
end Go.Proofs.Ytpimbaphenignaa
