/-
  Regions that draw their order: one walk in the order of the text, for every order; over any program.
-/
import Derived.Test.YtpimbaphenignaaSm
import Derived.StillTail
namespace Go.Sl
open Go
section
variable {P : Program} {n : Nat} {R : HL} {cx : Cx} {k : List Kont} {ρ : Env} {L : List HL}

/-- 'true': the whole region is quiet; 'false': its head is. -/
def qz (m : Bool) (P : Program) (R : HL) (cx : Cx) (L : List HL) (all : Array Oper) (K : Act → Prop) (l : List Oper) (a : Act) : Prop :=
  match m with
  | true => wpQuiet P all (fun w => St cx.w0 cx.S0 R L w) K l a
  | false => ∀ w, St cx.w0 cx.S0 R L w → wpStill P all w K l a
structure WZ (m : Bool) (P : Program) (n : Nat) (R : HL) (cx : Cx) (all : Array Oper) (l : List Oper) (ρ : Env) (L : List HL) (K : Env → Prop) : Prop where
  go : ∀ a, Fits n ρ a → qz m P R cx L all (fun a' => ∃ ρ', Fits n ρ' a' ∧ K ρ') l a

variable {m : Bool} {all : Array Oper} {K : Env → Prop}
theorem WZ.nil (h : K ρ) : WZ m P n R cx all [] ρ L K := ⟨fun a hf => by cases m; exact fun w _ => ⟨ρ, hf, h⟩; exact ⟨ρ, hf, h⟩⟩
theorem WZ.val {d : Nat} {op : Op} {ty : TypeId} {pos : String} {af : Array Edge} {l : List Oper} {v : Value}
    (h : OpVal P n R cx op ty ρ L v) (hd : d < n) (hk : WZ m P n R cx all l ((d, v) :: ρ) L K) : WZ m P n R cx all (⟨some d, op, ty, pos, af, none⟩ :: l) ρ L K := by
  refine ⟨fun a hf => ?_⟩
  have hr := fun w => h.go ⟨some d, op, ty, pos, af, none⟩ a w rfl rfl hf
  have hk' := hk.go _ (hf.put hd v)
  cases m with
  | true =>
    simp only [qz, wpQuiet] at hk' ⊢
    rw [if_pos (by simp [Region.wanted])]
    exact ⟨v, fun w hw => by unfold Oper.quietAt; rw [hr w hw]; exact ⟨rfl, rfl⟩, hk'⟩
  | false =>
    simp only [qz, wpStill] at hk' ⊢
    intro w hw
    rw [if_pos (by simp [Region.wanted])]
    unfold Oper.still
    rw [hr w hw]
    exact ⟨rfl, hk' w hw⟩
theorem yielded_of {a : Act} {j s : Nat} {v : Value} (hf : Fits n ρ a) (hj : (all[j]?).bind (·.dst) = some s) (hb : ρ.get? s = some v) :
    yielded all a.tmps j = (match v with | .bool b => some b | _ => none) := by
  have := hf.at_ s _ hb
  unfold yielded
  rw [hj]
  simp only [Option.bind_some]
  simp only [Array.getD_eq_getD_getElem?] at this
  cases hh : a.tmps[s]? with
  | none => rw [hh] at this; simp [undef] at this; subst this; rfl
  | some u => rw [hh] at this; simp at this; subst this; cases u <;> rfl
theorem WZ.guardGo {d : Option Nat} {op : Op} {ty : TypeId} {pos : String} {af : Array Edge} {l : List Oper} {j s : Nat} {want b : Bool}
    (hj : (all[j]?).bind (·.dst) = some s) (hb : ρ.get? s = some (.bool b)) (hw : b = want) (hk : WZ m P n R cx all (⟨d, op, ty, pos, af, none⟩ :: l) ρ L K) :
    WZ m P n R cx all (⟨d, op, ty, pos, af, some (j, want)⟩ :: l) ρ L K := by
  refine ⟨fun a hf => ?_⟩
  have hy := yielded_of (all := all) hf hj hb
  have h := hk.go a hf
  cases m with
  | true =>
    simp only [qz, wpQuiet] at h ⊢
    rw [if_pos (by simp [Region.wanted])] at h
    rw [if_pos (by simp [Region.wanted, hy, hw])]
    exact h
  | false =>
    simp only [qz, wpStill] at h ⊢
    intro w hw'
    have h := h w hw'
    rw [if_pos (by simp [Region.wanted])] at h
    rw [if_pos (by simp [Region.wanted, hy, hw])]
    exact h
theorem WZ.skip_ {d : Nat} {op : Op} {ty : TypeId} {pos : String} {af : Array Edge} {l : List Oper} {g : Option (Nat × Bool)}
    (hg : ∀ a, Fits n ρ a → Region.wanted ⟨some d, op, ty, pos, af, g⟩ (yielded all a.tmps) = false) (hd : d < n) (hk : WZ m P n R cx all l ((d, undef) :: ρ) L K) :
    WZ m P n R cx all (⟨some d, op, ty, pos, af, g⟩ :: l) ρ L K := by
  refine ⟨fun a hf => ?_⟩
  have h := hk.go _ (hf.put hd undef)
  cases m with
  | true =>
    simp only [qz, wpQuiet] at h ⊢
    rw [if_neg (by simp [hg a hf])]
    exact h
  | false =>
    simp only [qz, wpStill] at h ⊢
    intro w hw'
    rw [if_neg (by simp [hg a hf])]
    exact h w hw'
theorem WZ.guardSkip {d : Nat} {op : Op} {ty : TypeId} {pos : String} {af : Array Edge} {l : List Oper} {j s : Nat} {want b : Bool}
    (hj : (all[j]?).bind (·.dst) = some s) (hb : ρ.get? s = some (.bool b)) (hw : b = !want) (hd : d < n) (hk : WZ m P n R cx all l ((d, undef) :: ρ) L K) :
    WZ m P n R cx all (⟨some d, op, ty, pos, af, some (j, want)⟩ :: l) ρ L K :=
  WZ.skip_ (fun a hf => by have hy := yielded_of (all := all) hf hj hb; simp only [Region.wanted, hy, hw]; cases want <;> simp) hd hk
theorem WZ.guardUndef {d : Nat} {op : Op} {ty : TypeId} {pos : String} {af : Array Edge} {l : List Oper} {j s : Nat} {want : Bool}
    (hj : (all[j]?).bind (·.dst) = some s) (hb : ρ.get? s = some undef) (hd : d < n) (hk : WZ m P n R cx all l ((d, undef) :: ρ) L K) :
    WZ m P n R cx all (⟨some d, op, ty, pos, af, some (j, want)⟩ :: l) ρ L K :=
  WZ.skip_ (fun a hf => by have hy := yielded_of (all := all) hf hj hb; simp [Region.wanted, hy, undef]) hd hk

/-- A call that takes nothing of what is owned, and whose answer is certain. -/
theorem WZ.call {d : Nat} {c : Call} {ty : TypeId} {pos : String} {af : Array Edge} {l : List Oper} {fo : Operand} {xs : Array Operand} {tys : Array TypeId}
    {f : FuncId} {fst vs cap args : List Value} {ro : HL} {post : Value → List HL → Prop} (v0 : Value)
    (hc : c = ⟨.value fo, xs, tys⟩) (hfo : ev? ρ fo = some (.func (.func f) fst.toArray cap.toArray)) (hxs : evs? ρ xs.toList = some vs) (hargs : fst ++ vs ++ cap = args)
    (hsp : Ctr P f args [] ro post) (hro : RoIn R L ro) (hd : d < n) (hv : ∀ v L', post v L' → v = v0)
    (hk : WZ true P n R cx all l ((d, v0) :: ρ) L K) : WZ true P n R cx all (⟨some d, .call c, ty, pos, af, none⟩ :: l) ρ L K := by
  refine ⟨fun a hf => ?_⟩
  have h := hk.go _ (hf.put hd v0)
  have hxs' := hf.evs hxs
  have hx : xs.map a.eval = vs.toArray := by cases xs; simp at hxs'; simp [hxs']
  simp only [qz, wpQuiet] at h ⊢
  rw [if_pos (by simp [Region.wanted])]
  refine ⟨v0, fun w hs => ?_, h⟩
  unfold Oper.quietAt execOp
  subst hc
  have hcall := hsp.callable
  simp only [resolve, Deferred.ofValue, hf.ev hfo, hx, Sem.run_bind, Sem.run_pure, Result.andThen_ok, invoke]
  rw [show (fst.toArray ++ vs.toArray ++ cap.toArray) = args.toArray from by rw [← hargs]; simp, hcall]
  refine ⟨rfl, (hsp.use hs (Sel.nil (L := L)) hro).mono ?_⟩
  rintro e w' ⟨v, L', rfl, hpost, hst⟩
  refine ⟨by rw [hv v L' hpost], hst.perm (M := L) (X := L'.flatten) ?_⟩
  simp only [List.flatten_append]
  exact List.perm_append_comm
def zdrive (T : Tab) (n : Nat) : List Oper → Env → Option (List Oper × Env)
  | [], ρ => some ([], ρ)
  | o :: l, ρ => match o with
    | ⟨some d, op, _, _, _, none⟩ => match pop? T ρ op with
      | some v => if Nat.blt d n then zdrive T n l ((d, v) :: ρ) else none
      | none => some (o :: l, ρ)
    | o => some (o :: l, ρ)
theorem WZ.drive {T : Tab} (hT : TabOk P T) : ∀ {l l' : List Oper} {ρ ρ' : Env}, zdrive T n l ρ = some (l', ρ') → WZ m P n R cx all l' ρ' L K → WZ m P n R cx all l ρ L K
  | [], l', ρ, ρ', e, h => by simp only [zdrive, Option.some.injEq, Prod.mk.injEq] at e; obtain ⟨rfl, rfl⟩ := e; exact h
  | o :: l, l', ρ, ρ', e, h => by
    unfold zdrive at e
    split at e
    · split at e
      · rename_i v hv
        split at e
        · rename_i hd
          exact WZ.val (pop_val hT hv) (by simpa using hd) (WZ.drive hT e h)
        · cases e
      · simp only [Option.some.injEq, Prod.mk.injEq] at e; obtain ⟨rfl, rfl⟩ := e; exact h
    · simp only [Option.some.injEq, Prod.mk.injEq] at e; obtain ⟨rfl, rfl⟩ := e; exact h

theorem St.drawn {w0 w : World} {S0 : List Nat} {L : List HL} (hs : St w0 S0 R L w) (i : Nat) : St w0 S0 R L { w with drawn := i } := ⟨hs.has, hs.nd, hs.fr, hs.own, hs.sz, hs.ro, hs.env⟩

theorem wpQuiet_mono {C : World → Prop} {K K' : Act → Prop} (h : ∀ a, K a → K' a) : ∀ (l : List Oper) (a : Act), wpQuiet P all C K l a → wpQuiet P all C K' l a
  | [], a, hh => h a hh
  | o :: l, a, hh => by
    simp only [wpQuiet] at hh ⊢
    split
    · rename_i hg; rw [if_pos hg] at hh; exact Oper.quiet_mono (fun a => wpQuiet_mono h l a) hh
    · rename_i hg; rw [if_neg hg] at hh; exact wpQuiet_mono h l _ hh
theorem wpStill_mono {w : World} {K K' : Act → Prop} (h : ∀ a, K a → K' a) : ∀ (l : List Oper) (a : Act), wpStill P all w K l a → wpStill P all w K' l a
  | [], a, hh => h a hh
  | o :: l, a, hh => by
    simp only [wpStill] at hh ⊢
    split
    · rename_i hg; rw [if_pos hg] at hh; exact Oper.still_mono (fun a => wpStill_mono h l a) hh
    · rename_i hg; rw [if_neg hg] at hh; exact wpStill_mono h l _ hh
/-- A region that draws, quiet as a whole. -/
theorem W.draw {id : Nat} {ops : Array Oper} (hm : P.follows .mixedOrders = true) (hB : Region.lexB .any ops = true)
    (h : WZ true P n R cx ops ops.toList ρ L (fun ρ' => W P n R cx k ρ' L)) : W P n R cx (.code (.region id ops true) :: k) ρ L := by
  refine ⟨fun a w hf hs => ?_⟩
  have h1 := h.go a hf
  simp only [qz] at h1
  simp only [mean]
  refine wp_region_quiet (C := fun w => St cx.w0 cx.S0 R L w) hm hB (hs.drawn _) ?_
  refine wpQuiet_mono ?_ _ _ h1
  rintro a' ⟨ρ', hf', hW⟩ w' hs'
  exact hW.go a' w' hf' hs'
/-- A region that draws; its first N operations are quiet, the rest goes in one row. -/
theorem W.drawTail (N : Nat) {id : Nat} {l : List Oper} (hm : P.follows .mixedOrders = true) (hB : Region.lexTailB .any l.toArray N = true)
    (h : WZ false P n R cx l.toArray (l.take N) ρ L (fun ρ' => W P n R cx (.ops l.toArray (l.drop N) :: k) ρ' L)) : W P n R cx (.code (.region id l.toArray true) :: k) ρ L := by
  refine ⟨fun a w hf hs => ?_⟩
  have h1 := h.go a hf
  simp only [qz] at h1
  simp only [mean]
  refine wp_region_still_tail N hm hB ?_
  refine wpStill_mono ?_ _ _ (h1 _ (hs.drawn _))
  rintro a' ⟨ρ', hf', hW⟩
  exact hW.go a' _ hf' (hs.drawn _)
end
end Go.Sl
