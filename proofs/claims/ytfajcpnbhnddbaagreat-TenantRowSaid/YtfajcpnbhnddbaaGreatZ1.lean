/-
  The walks of this claim and the rules that they use, part one: each theorem is a contract of one function, or what such a proof asks.
-/
import Derived.WalkKit
import Derived.Scope
import Derived.Deep.Quiet
import Derived.StillTail
import Derived.Test.YtfajcpnbhnddbaaGreatProg
import Derived.KernelRfl
namespace Go.Sl
open Go
abbrev Env := List (Nat × Value)
def Env.get? : Env → Nat → Option Value
  | [], _ => none
  | (k, v) :: r, t => if k = t then some v else Env.get? r t
def ev? (ρ : Env) : Operand → Option Value
  | .tmp t => ρ.get? t
  | .const v => some v
  | .global g => some (.pointer (some ⟨g, 0, none⟩))
  | .func f => some (.func (.func f) #[] #[])
def evs? (ρ : Env) : List Operand → Option (List Value)
  | [] => some []
  | x :: xs => match ev? ρ x with
    | none => none
    | some v => match evs? ρ xs with
      | none => none
      | some r => some (v :: r)
structure Fits (n : Nat) (ρ : Env) (a : Act) : Prop where
  df : a.defers = []
  sz : a.tmps.size = n
  at_ : ∀ t v, ρ.get? t = some v → a.tmps.getD t undef = v
theorem Fits.ev {n : Nat} {ρ : Env} {a : Act} (h : Fits n ρ a) {x : Operand} {v : Value} (e : ev? ρ x = some v) : a.eval x = v := by
  cases x with
  | tmp t => exact h.at_ t v e
  | const u => simpa [ev?, Act.eval] using e
  | global g => simpa [ev?, Act.eval] using e
  | func f => simpa [ev?, Act.eval] using e
theorem Fits.evs {n : Nat} {ρ : Env} {a : Act} (h : Fits n ρ a) : ∀ {xs : List Operand} {vs : List Value}, evs? ρ xs = some vs → xs.map a.eval = vs
  | [], vs, e => by simpa [evs?] using e
  | x :: xs, vs, e => by
    unfold evs? at e
    cases h1 : ev? ρ x with
    | none => rw [h1] at e; cases e
    | some v =>
      rw [h1] at e
      cases h2 : evs? ρ xs with
      | none => rw [h2] at e; cases e
      | some r =>
        rw [h2] at e
        cases e
        simp [h.ev h1, h.evs h2]
theorem Fits.put {n : Nat} {ρ : Env} {a : Act} (h : Fits n ρ a) {d : Nat} (hd : d < n) (v : Value) : Fits n ((d, v) :: ρ) (a.put (some d) v) := by
  refine ⟨h.df, by simpa [Act.put] using h.sz, fun t u e => ?_⟩
  simp only [Env.get?] at e
  have hs := h.sz
  by_cases ht : d = t
  · subst ht
    rw [if_pos rfl] at e
    cases e
    simp [Act.put, Array.getD, hs, hd]
  · rw [if_neg ht] at e
    have := h.at_ t u e
    simp only [Act.put, Array.getD_eq_getD_getElem?] at this ⊢
    rw [Array.getElem?_setIfInBounds_ne ht]
    exact this
def Env.sub (ρ' ρ : Env) : Prop := match ρ' with
  | [] => True
  | (t, v) :: r => ρ.get? t = some v ∧ Env.sub r ρ
theorem Env.sub_get {ρ' ρ : Env} (h : Env.sub ρ' ρ) {t : Nat} {v : Value} (e : ρ'.get? t = some v) : ρ.get? t = some v := by
  induction ρ' with
  | nil => cases e
  | cons p r ih =>
    obtain ⟨k, u⟩ := p
    simp only [Env.get?] at e
    by_cases hk : k = t
    · subst hk; rw [if_pos rfl] at e; cases e; exact h.1
    · rw [if_neg hk] at e; exact ih h.2 e
theorem Fits.sub {n : Nat} {ρ ρ' : Env} {a : Act} (h : Fits n ρ a) (s : Env.sub ρ' ρ) : Fits n ρ' a := ⟨h.df, h.sz, fun t v e => h.at_ t v (Env.sub_get s e)⟩
abbrev HL := List (Nat × Obj)
def ids (H : HL) : List Nat := H.map (·.1)
structure St (w0 : World) (S0 : List Nat) (R : HL) (L : List HL) (w : World) : Prop where
  has : ∀ p ∈ L.flatten, w.heap[p.1]? = some p.2
  nd : (ids L.flatten).Nodup
  fr : ∀ b, b < w0.heap.size → b ∉ S0 → w.heap[b]? = w0.heap[b]?
  own : ∀ b ∈ ids L.flatten, b ∈ S0 ∨ w0.heap.size ≤ b
  sz : w0.heap.size ≤ w.heap.size
  ro : ∀ p ∈ R, w0.heap[p.1]? = some p.2 ∧ p.1 ∉ S0
  env : w.os = w0.os ∧ w.tape = w0.tape ∧ w.output = w0.output
structure Ctr (P : Program) (f : FuncId) (args : List Value) (pre : List HL) (ro : HL) (post : Value → List HL → Prop) : Prop where
  callable : ∀ (args : Array Value) (w : World), (callFunc f args).run P w = .ok (.enter f args) w
  go : ∀ w, (∀ p ∈ pre.flatten, w.heap[p.1]? = some p.2) → (ids pre.flatten).Nodup → (∀ p ∈ ro, w.heap[p.1]? = some p.2 ∧ p.1 ∉ ids pre.flatten) →
    Calls P f args.toArray w fun e w' => ∃ v L', e = .returned v ∧ post v L' ∧ St w (ids pre.flatten) ro L' w'
structure Cx where
  w0 : World
  S0 : List Nat
  Q : Exit → Act → World → Prop
inductive Kont where
  | code (c : Code)
  | blk (id : Nat)
  | scp
  | ops (all : Array Oper) (l : List Oper)
  | rnd (J : Env → List HL → Prop)
def mean (P : Program) (n : Nat) (R : HL) (cx : Cx) : List Kont → Exit → Act → World → Prop
  | [] => cx.Q
  | .code c :: k => fun e a w => match e with
    | .normal => c.wp P (mean P n R cx k) a w
    | e => mean P n R cx k e a w
  | .blk id :: k => Exit.inBlock id (mean P n R cx k)
  | .scp :: k => Exit.noGoto (mean P n R cx k)
  | .ops all l :: k => fun e a w => match e with
    | .normal => wpList P all (mean P n R cx k) l a w
    | e => mean P n R cx k e a w
  | .rnd J :: k => fun e a w => match e with
    | .normal => ∃ ρ L, J ρ L ∧ Fits n ρ a ∧ St cx.w0 cx.S0 R L w
    | e => mean P n R cx k e a w
structure W (P : Program) (n : Nat) (R : HL) (cx : Cx) (k : List Kont) (ρ : Env) (L : List HL) : Prop where
  go : ∀ a w, Fits n ρ a → St cx.w0 cx.S0 R L w → mean P n R cx k .normal a w
structure Fin (n : Nat) (R : HL) (cx : Cx) (ρ : Env) (L : List HL) : Prop where
  go : ∀ a w, Fits n ρ a → St cx.w0 cx.S0 R L w → cx.Q .ret a w
section
variable {P : Program} {n : Nat} {R : HL} {cx : Cx} {k : List Kont} {ρ : Env} {L : List HL}
theorem mean_ret : ∀ (k : List Kont) (a : Act) (w : World), cx.Q .ret a w → mean P n R cx k .ret a w
  | [], _, _, h => h
  | .code _ :: k, a, w, h => mean_ret k a w h
  | .blk _ :: k, a, w, h => mean_ret k a w h
  | .scp :: k, a, w, h => mean_ret k a w h
  | .ops _ _ :: k, a, w, h => mean_ret k a w h
  | .rnd _ :: k, a, w, h => mean_ret k a w h
def findBlk (id : Nat) : List Kont → Option (List Kont)
  | [] => none
  | .blk i :: k => if i = id then some k else findBlk id k
  | .code _ :: k => findBlk id k
  | .scp :: k => findBlk id k
  | .ops _ _ :: k => findBlk id k
  | .rnd _ :: k => findBlk id k
theorem mean_exit (id : Nat) : ∀ (k k' : List Kont) (a : Act) (w : World), findBlk id k = some k' → mean P n R cx k' .normal a w → mean P n R cx k (.exit id) a w
  | [], _, _, _, e, _ => by cases e
  | .code _ :: k, k', a, w, e, h => mean_exit id k k' a w e h
  | .scp :: k, k', a, w, e, h => mean_exit id k k' a w e h
  | .ops _ _ :: k, k', a, w, e, h => mean_exit id k k' a w e h
  | .rnd _ :: k, k', a, w, e, h => mean_exit id k k' a w e h
  | .blk i :: k, k', a, w, e, h => by
    simp only [findBlk] at e
    simp only [mean, Exit.inBlock]
    by_cases hi : i = id
    · rw [if_pos hi] at e; cases e; rw [if_pos hi.symm]; exact h
    · rw [if_neg hi] at e; rw [if_neg (Ne.symm hi)]; exact mean_exit id k k' a w e h
theorem then_eq (y : Code) (k : List Kont) : Exit.then (y.wp P (mean P n R cx k)) (mean P n R cx k) = mean P n R cx (.code y :: k) := by
  funext e a w
  cases e <;> rfl
structure OpVal (P : Program) (n : Nat) (R : HL) (cx : Cx) (o : Op) (ty : TypeId) (ρ : Env) (L : List HL) (v : Value) : Prop where
  go : ∀ (oo : Oper) a w, oo.op = o → oo.type = ty → Fits n ρ a → St cx.w0 cx.S0 R L w → (execOp a.eval oo).run P w = .ok (.value v) w
theorem W.val {all : Array Oper} {d : Nat} {op : Op} {ty : TypeId} {pos : String} {af : Array Edge} {l : List Oper} {v : Value}
    (h : OpVal P n R cx op ty ρ L v) (hd : d < n) (hk : W P n R cx (.ops all l :: k) ((d, v) :: ρ) L) :
    W P n R cx (.ops all (⟨some d, op, ty, pos, af, none⟩ :: l) :: k) ρ L := by
  refine ⟨fun a w hf hs => ?_⟩
  have hr := h.go ⟨some d, op, ty, pos, af, none⟩ a w rfl rfl hf hs
  simp only [mean, wpList, Region.wanted, if_true]
  refine .inl ?_
  unfold Oper.wp
  rw [hr]
  exact hk.go _ _ (hf.put hd v) hs
def IsAgg (P : Program) (t : TypeId) (b : Bool) : Prop := ∀ w, (isAgg t).run P w = .ok b w
def SizeOf (P : Program) (t : TypeId) (m : Nat) : Prop := ∀ w, (sizeOf t).run P w = .ok m w
def ZeroOf (P : Program) (t : TypeId) (z : Value) : Prop := ∀ w, (zeroValue t).run P w = .ok z w
def FieldAt (P : Program) (e : Nat × Nat × Nat) : Prop :=
  ∀ (b o : Nat) (w : World), (Instr.fieldAt e.1 (.pointer (some ⟨b, o, none⟩)) e.2.1).run P w = .ok (.pointer (some ⟨b, o + e.2.2, none⟩)) w
def PlacesOk (P : Program) (e : Nat × List (Nat × Nat)) : Prop :=
  (∃ fs, P.underlying e.1 = some (.struct fs) ∧ ∀ w, (fs.mapM (fun f => do pure (f.offset, ← sizeOf f.type)) : Sem (Array (Nat × Nat))).run P w = .ok e.2.toArray w) ∨
  (∃ len el m, P.underlying e.1 = some (.array len el) ∧ SizeOf P el m ∧ e.2 = (List.range len).map fun i => (i * m, m))
def InfOk (P : Program) (e m bytes : Nat) : Prop := ∃ i z, P.info? e = some i ∧ i.zero = some z ∧ i.size = m ∧ i.bytes = bytes ∧ z.cells.size = m ∧ 0 < m
structure Tab where
  offs : List (Nat × Nat × Nat)
  tys : List (Nat × Bool × Nat)
  zeros : List (Nat × Value)
  sls : List (Nat × Nat)
  ars : List (Nat × Nat × Nat)
  ints : List (Nat × IntKind)
  strs : List Nat
  bools : List Nat
  ptrs : List (Nat × Nat)
  flds : List (Nat × List (Nat × Nat))
  infs : List (Nat × Nat × Nat)
structure TabOk (P : Program) (T : Tab) : Prop where
  offs : ∀ e ∈ T.offs, FieldAt P e
  tys : ∀ e ∈ T.tys, IsAgg P e.1 e.2.1 ∧ SizeOf P e.1 e.2.2
  zeros : ∀ e ∈ T.zeros, ZeroOf P e.1 e.2
  sls : ∀ e ∈ T.sls, P.underlying e.1 = some (.slice e.2)
  ars : ∀ e ∈ T.ars, P.underlying e.1 = some (.array e.2.1 e.2.2)
  ints : ∀ e ∈ T.ints, P.underlying e.1 = some (.int e.2)
  strs : ∀ t ∈ T.strs, P.underlying t = some .string
  bools : ∀ t ∈ T.bools, P.underlying t = some .bool
  ptrs : ∀ e ∈ T.ptrs, P.underlying e.1 = some (.pointer e.2)
  flds : ∀ e ∈ T.flds, PlacesOk P e
  infs : ∀ e ∈ T.infs, InfOk P e.1 e.2.1 e.2.2
def look? {α : Type} : List (Nat × α) → Nat → Option α
  | [], _ => none
  | (k, v) :: r, t => if k = t then some v else look? r t
theorem look?_mem {α : Type} {l : List (Nat × α)} {t : Nat} {v : α} (h : look? l t = some v) : (t, v) ∈ l := by
  induction l with
  | nil => cases h
  | cons p r ih =>
    obtain ⟨k, u⟩ := p
    simp only [look?] at h
    split at h
    · rename_i hk; subst hk; cases h; simp
    · exact List.mem_cons_of_mem _ (ih h)
def offAt : List (Nat × Nat × Nat) → Nat → Nat → Option Nat
  | [], _, _ => none
  | (s, f, o) :: r, s', f' => if s = s' then (if f = f' then some o else offAt r s' f') else offAt r s' f'
theorem offAt_mem {T : List (Nat × Nat × Nat)} {s f o : Nat} (h : offAt T s f = some o) : (s, f, o) ∈ T := by
  induction T with
  | nil => cases h
  | cons p r ih =>
    obtain ⟨s', f', o'⟩ := p
    simp only [offAt] at h
    split at h
    · split at h
      · cases h; simp_all
      · exact List.mem_cons_of_mem _ (ih h)
    · exact List.mem_cons_of_mem _ (ih h)
def hasNat : List Nat → Nat → Bool
  | [], _ => false
  | x :: r, t => if x = t then true else hasNat r t
theorem hasNat_mem {l : List Nat} {t : Nat} (h : hasNat l t = true) : t ∈ l := by
  induction l with
  | nil => cases h
  | cons x r ih =>
    simp only [hasNat] at h
    split at h
    · simp_all
    · exact List.mem_cons_of_mem _ (ih h)
def cmp? (op : BinOp) (a b : Int) : Option Value :=
  match op with
  | .eql => some (.bool (decide (a = b)))
  | .neq => some (.bool (!decide (a = b)))
  | .lss => some (.bool (decide (a < b)))
  | .leq => some (.bool (decide (a ≤ b)))
  | .gtr => some (.bool (decide (b < a)))
  | .geq => some (.bool (decide (b ≤ a)))
  | _ => none
def pop? (T : Tab) (ρ : Env) : Op → Option Value
  | .move x => ev? ρ x
  | .assign x => ev? ρ x
  | .extract x i => match ev? ρ x with
    | some (.tuple ⟨l⟩) => l[i]?
    | _ => none
  | .unOp .not _ x => match ev? ρ x with
    | some (.bool b) => some (.bool (!b))
    | _ => none
  | .binOp op _ x y _ => match ev? ρ x, ev? ρ y with
    | some (.int k a), some (.int k' b) => if k = k' then cmp? op a b else none
    | _, _ => none
  | .nilCheck x => match ev? ρ x with
    | some (.pointer (some a)) => some (.pointer (some a))
    | some (.func (.func f) a b) => some (.func (.func f) a b)
    | _ => none
  | .fieldAddr s x f => match ev? ρ x with
    | some (.pointer (some ⟨b, o, none⟩)) => match offAt T.offs s f with
      | some m => some (.pointer (some ⟨b, o + m, none⟩))
      | none => none
    | _ => none
  | .makeFunc fn first cap => match evs? ρ first.toList, evs? ρ cap.toList with
    | some a, some b => some (.func fn ⟨a⟩ ⟨b⟩)
    | _, _ => none
  | .call ⟨.builtin .len, ⟨[x]⟩, ⟨[t]⟩⟩ => match ev? ρ x with
    | some (.slice _ m _) => match look? T.sls t with
      | some _ => some (.int .i64 m)
      | none => none
    | some (.string s) => if hasNat T.strs t then some (.int .i64 s.size) else none
    | _ => none
  | _ => none
theorem run_cmp (P : Program) (w : World) {op : BinOp} {k : IntKind} {a b : Int} {v : Value} (h : cmp? op a b = some v) {t : TypeId} {x y : Operand} :
    (do eqGuard op t x y (.int k a) (.int k b); binOp op t (.int k a) (.int k b)).run P w = .ok v w := by
  cases op <;> simp only [cmp?, Option.some.injEq, reduceCtorEq] at h <;> subst h <;> simp [eqGuard, binOp, Op.intCmp, BEq.beq, bne]
theorem pop_val {T : Tab} (hT : TabOk P T) {o : Op} {ty : TypeId} {v : Value} (h : pop? T ρ o = some v) : OpVal P n R cx o ty ρ L v := by
  refine ⟨fun oo a w ho hty hf hs => ?_⟩
  unfold pop? at h
  split at h
  · unfold execOp; rw [ho]; simp [hf.ev h]
  · unfold execOp; rw [ho]; simp [hf.ev h]
  · split at h
    · rename_i x i l hx
      unfold execOp; rw [ho]; simp only [hf.ev hx, Instr.extract]
      simp [h]
    · cases h
  · split at h
    · rename_i x b hx
      cases h
      unfold execOp; rw [ho]; simp [hf.ev hx, Op.unary]
    · cases h
  · split at h
    · rename_i k a' k' b' hx hy
      split at h
      · rename_i hk
        subst hk
        unfold execOp
        rw [ho]
        simp only [hf.ev hx, hf.ev hy]
        rw [Sem.run_bind, run_cmp P w h]
        rfl
      · cases h
    · cases h
  · split at h
    · rename_i x a' hx
      cases h
      unfold execOp; rw [ho]; simp [hf.ev hx]
    · rename_i x f' a' b' hx
      cases h
      unfold execOp; rw [ho]; simp [hf.ev hx]
    · cases h
  · split at h
    · rename_i s x f b' o' hx
      split at h
      · rename_i m hm
        cases h
        have := hT.offs _ (offAt_mem hm) b' o' w
        unfold execOp; rw [ho]; simp [hf.ev hx, this]
      · cases h
    · cases h
  · split at h
    · rename_i a' b' h1 h2
      cases h
      have e1 := hf.evs h1
      have e2 := hf.evs h2
      unfold execOp; rw [ho]
      simp only [Instr.makeFunc]
      have f1 : ∀ (xs : Array Operand) (l : List Value), xs.toList.map a.eval = l → xs.map a.eval = ⟨l⟩ := by
        intro xs l h; cases xs; simp at h; simp [h]
      rw [f1 _ _ e1, f1 _ _ e2]
      rfl
    · cases h
  · split at h
    · rename_i x t m cc hx
      split at h
      · rename_i e hm
        cases h
        have he := hT.sls _ (look?_mem hm)
        unfold execOp; rw [ho]; simp [resolve, invoke, builtin, Builtin.len_, hf.ev hx, underlying, he, goInt]
      · cases h
    · rename_i x t s hx
      split at h
      · rename_i hm
        cases h
        have he := hT.strs _ (hasNat_mem hm)
        unfold execOp; rw [ho]; simp [resolve, invoke, builtin, Builtin.len_, hf.ev hx, underlying, he, goInt]
      · cases h
    · cases h
  · cases h
def drive (T : Tab) (n : Nat) : Nat → List Kont → Env → Option (List Kont × Env)
  | 0, s, ρ => some (s, ρ)
  | f + 1, s, ρ => match s with
    | .code c :: k => match c with
      | .skip => drive T n f k ρ
      | .label _ => drive T n f k ρ
      | .seq a b => drive T n f (.code a :: .code b :: k) ρ
      | .region _ ops false => drive T n f (.ops ops ops.toList :: k) ρ
      | .block id c => drive T n f (.code c :: .blk id :: k) ρ
      | .scope c => drive T n f (.code c :: .scp :: k) ρ
      | .exit id => match findBlk id k with
        | some k' => drive T n f k' ρ
        | none => none
      | c => some (.code c :: k, ρ)
    | .blk _ :: k => drive T n f k ρ
    | .scp :: k => drive T n f k ρ
    | .ops _ [] :: k => drive T n f k ρ
    | .ops all (o :: l) :: k => match o with
      | ⟨some d, op, _, _, _, none⟩ => match pop? T ρ op with
        | some v => if Nat.blt d n then drive T n f (.ops all l :: k) ((d, v) :: ρ) else none
        | none => some (.ops all (o :: l) :: k, ρ)
      | o => some (.ops all (o :: l) :: k, ρ)
    | s => some (s, ρ)
theorem W.drive {T : Tab} (hT : TabOk P T) : ∀ (f : Nat) {s s' : List Kont} {ρ ρ' : Env}, drive T n f s ρ = some (s', ρ') → W P n R cx s' ρ' L → W P n R cx s ρ L
  | 0, s, s', ρ, ρ', e, h => by simp only [Sl.drive, Option.some.injEq, Prod.mk.injEq] at e; obtain ⟨rfl, rfl⟩ := e; exact h
  | f + 1, s, s', ρ, ρ', e, h => by
    unfold Sl.drive at e
    split at e
    · split at e
      · have := (W.drive hT f e h).go; exact ⟨fun a w hf hs => wp_skip (this a w hf hs)⟩
      · have := (W.drive hT f e h).go; exact ⟨fun a w hf hs => wp_label (this a w hf hs)⟩
      · have := (W.drive hT f e h).go
        refine ⟨fun a w hf hs => ?_⟩
        have h1 := this a w hf hs
        simp only [mean] at h1 ⊢
        refine wp_seq ?_
        rw [then_eq]
        exact h1
      · have := (W.drive hT f e h).go
        refine ⟨fun a w hf hs => ?_⟩
        have h1 := this a w hf hs
        simp only [mean] at h1 ⊢
        exact wp_region_list h1
      · have := (W.drive hT f e h).go
        refine ⟨fun a w hf hs => ?_⟩
        have h1 := this a w hf hs
        simp only [mean] at h1 ⊢
        exact wp_block h1
      · have := (W.drive hT f e h).go
        refine ⟨fun a w hf hs => ?_⟩
        have h1 := this a w hf hs
        simp only [mean] at h1 ⊢
        exact wp_scope_straight h1
      · split at e
        · rename_i k' hk
          have := (W.drive hT f e h).go
          refine ⟨fun a w hf hs => ?_⟩
          have h1 := this a w hf hs
          simp only [mean]
          exact wp_exit (mean_exit _ _ _ a w hk h1)
        · cases e
      · simp only [Option.some.injEq, Prod.mk.injEq] at e; obtain ⟨rfl, rfl⟩ := e; exact h
    · have := (W.drive hT f e h).go; exact ⟨fun a w hf hs => this a w hf hs⟩
    · have := (W.drive hT f e h).go; exact ⟨fun a w hf hs => this a w hf hs⟩
    · have := (W.drive hT f e h).go; exact ⟨fun a w hf hs => this a w hf hs⟩
    · split at e
      · split at e
        · rename_i d op ty pos af v hv
          split at e
          · rename_i hd
            exact W.val (pop_val hT hv) (by simpa using hd) (W.drive hT f e h)
          · cases e
        · simp only [Option.some.injEq, Prod.mk.injEq] at e; obtain ⟨rfl, rfl⟩ := e; exact h
      · simp only [Option.some.injEq, Prod.mk.injEq] at e; obtain ⟨rfl, rfl⟩ := e; exact h
    · simp only [Option.some.injEq, Prod.mk.injEq] at e; obtain ⟨rfl, rfl⟩ := e; exact h
end
end Go.Sl
namespace Go.Sl
open Go
section
variable {P : Program} {n : Nat} {R : HL} {cx : Cx} {k : List Kont} {ρ : Env} {L : List HL}
def At (R : HL) (L : List HL) (b : Nat) (o : Obj) : Prop := (b, o) ∈ L.flatten ∨ (b, o) ∈ R
theorem At.heap {b : Nat} {o : Obj} (h : At R L b o) {w0 : World} {S0 : List Nat} {w : World} (hs : St w0 S0 R L w) : w.heap[b]? = some o := by
  rcases h with h | h
  · exact hs.has _ h
  · obtain ⟨h1, h2⟩ := hs.ro _ h
    rw [hs.fr b (Array.getElem?_eq_some_iff.1 h1).1 h2]
    exact h1
theorem at_own {b : Nat} {o : Obj} (i : Nat) (h : L[i]? = some [(b, o)]) : At R L b o :=
  .inl (List.mem_flatten.2 ⟨_, List.mem_of_getElem? h, by simp⟩)
theorem at_in {b : Nat} {o : Obj} {H : HL} (i : Nat) (h : L[i]? = some H) (h2 : (b, o) ∈ H) : At R L b o :=
  .inl (List.mem_flatten.2 ⟨_, List.mem_of_getElem? h, h2⟩)
theorem at_ro {b : Nat} {o : Obj} (i : Nat) (h : R[i]? = some (b, o)) : At R L b o := .inr (List.mem_of_getElem? h)
def take? : List Value → Nat → Option (List Value)
  | _, 0 => some []
  | [], _ + 1 => none
  | x :: l, m + 1 => match take? l m with
    | some r => some (x :: r)
    | none => none
def seg? : List Value → Nat → Nat → Option (List Value)
  | l, 0, m => take? l m
  | [], _ + 1, _ => none
  | _ :: l, o + 1, m => seg? l o m
def splice? : List Value → Nat → List Value → Option (List Value)
  | l, 0, [] => some l
  | [], 0, _ :: _ => none
  | _ :: l, 0, v :: vs => match splice? l 0 vs with
    | some r => some (v :: r)
    | none => none
  | [], _ + 1, _ => none
  | x :: l, o + 1, vs => match splice? l o vs with
    | some r => some (x :: r)
    | none => none
theorem take?_eq : ∀ (l : List Value) (m : Nat) {vs : List Value}, take? l m = some vs → m ≤ l.length ∧ vs = l.take m
  | l, 0, vs, h => by cases l <;> (simp only [take?, Option.some.injEq] at h; subst h; simp)
  | [], _ + 1, _, h => by cases h
  | x :: l, m + 1, vs, h => by
    simp only [take?] at h
    split at h
    · rename_i r hr
      cases h
      obtain ⟨h1, h2⟩ := take?_eq l m hr
      simp [h1, h2]
    · cases h
theorem seg?_eq : ∀ (l : List Value) (o m : Nat) {vs : List Value}, seg? l o m = some vs → o + m ≤ l.length ∧ vs = (l.drop o).take m
  | l, 0, m, vs, h => by
    have h' : take? l m = some vs := by cases l <;> exact h
    simpa using take?_eq l m h'
  | [], _ + 1, _, _, h => by cases h
  | x :: l, o + 1, m, vs, h => by
    have := seg?_eq l o m (vs := vs) (by simpa [seg?] using h)
    simp only [List.length_cons, List.drop_succ_cons]
    exact ⟨by omega, this.2⟩
theorem splice?_eq : ∀ (l : List Value) (o : Nat) (vs : List Value) {l' : List Value}, splice? l o vs = some l' → o + vs.length ≤ l.length ∧ l' = l.take o ++ vs ++ l.drop (o + vs.length)
  | l, 0, [], l', h => by
    have : l = l' := by cases l <;> simpa [splice?] using h
    subst this
    simp
  | [], 0, _ :: _, _, h => by cases h
  | x :: l, 0, v :: vs, l', h => by
    simp only [splice?] at h
    split at h
    · rename_i r hr
      cases h
      obtain ⟨h1, h2⟩ := splice?_eq l 0 vs hr
      subst h2
      simp at h1 ⊢
      exact h1
    · cases h
  | [], _ + 1, _, _, h => by cases h
  | x :: l, o + 1, vs, l', h => by
    simp only [splice?] at h
    split at h
    · rename_i r hr
      cases h
      obtain ⟨h1, h2⟩ := splice?_eq l o vs hr
      subst h2
      simp only [List.length_cons, List.take_succ_cons, List.cons_append]
      refine ⟨by omega, ?_⟩
      rw [show o + 1 + vs.length = (o + vs.length) + 1 from by omega, List.drop_succ_cons]
    · cases h
def cells? : Value → Option (List Value)
  | .agg ⟨l⟩ => some l
  | .tuple _ => none
  | v => some [v]
theorem cells?_eq {v : Value} {l : List Value} (h : cells? v = some l) : v.cells = l.toArray := by
  cases v <;> simp only [cells?, Option.some.injEq, reduceCtorEq] at h <;> subst h <;> rfl
def allOne : List Value → Bool
  | [] => true
  | v :: r => match v with
    | .agg _ => false
    | .tuple _ => false
    | _ => allOne r
theorem allOne_mem {l : List Value} (h : allOne l = true) : ∀ v ∈ l, v.oneCell' = true := by
  induction l with
  | nil => simp
  | cons v r ih =>
    intro u hu
    rcases List.mem_cons.1 hu with rfl | hu
    · cases u <;> simp_all [allOne, Value.oneCell']
    · refine ih ?_ u hu
      cases v <;> simp_all [allOne]
theorem allOne_of {l : List Value} (h : ∀ v ∈ l, v.oneCell' = true) : allOne l = true := by
  induction l with
  | nil => rfl
  | cons v r ih =>
    have hv := h v (by simp)
    have hr := ih (fun u hu => h u (by simp [hu]))
    cases v <;> simp_all [allOne, Value.oneCell']
theorem Addr.add_none' (b o m : Nat) : (⟨b, o, none⟩ : Addr).add m = ⟨b, o + m, none⟩ := by
  unfold Addr.add; split <;> simp_all
theorem OpVal.load1 {t ty : TypeId} {x : Operand} {b off : Nat} {l : List Value} {e : TypeId} {fr : Nat × Nat} {v : Value}
    (ht : IsAgg P t false) (hx : ev? ρ x = some (.pointer (some ⟨b, off, none⟩))) (hb : At R L b (.cells l.toArray e fr)) (hv : l[off]? = some v) :
    OpVal P n R cx (.load t x) ty ρ L v := by
  refine ⟨fun oo a w ho hty hf hs => ?_⟩
  have hc : w.cell? ⟨b, off, none⟩ = some v := by rw [cell_of_row w b off _ e fr (hb.heap hs)]; simpa using hv
  unfold execOp; rw [ho]
  simp [hf.ev hx, Instr.loadAt, Instr.sureAddr, loadVar, ht w, hc]
theorem run_loadCells_seg {w : World} {b off m : Nat} {l vs : List Value} {e : TypeId} {fr : Nat × Nat} (hg : w.heap[b]? = some (.cells l.toArray e fr))
    (hv : seg? l off m = some vs) : (loadCells ⟨b, off, none⟩ m).run P w = .ok vs.toArray w := by
  obtain ⟨h1, h2⟩ := seg?_eq l off m hv
  have hl : vs.length = m := by rw [h2]; simp; omega
  rw [← hl]
  refine run_loadCells_list (P := P) w ⟨b, off, none⟩ vs (fun j v hj => ?_)
  rw [Addr.add_none', cell_of_row w b (off + j) _ e fr hg]
  have hjm : j < m := by rw [← hl]; exact (List.getElem?_eq_some_iff.1 hj).1
  rw [h2, List.getElem?_take, if_pos hjm, List.getElem?_drop] at hj
  simpa using hj
theorem OpVal.loadN {t ty : TypeId} {x : Operand} {b off m : Nat} {l : List Value} {e : TypeId} {fr : Nat × Nat} {vs : List Value}
    (ht : IsAgg P t true) (hz : SizeOf P t m) (hx : ev? ρ x = some (.pointer (some ⟨b, off, none⟩))) (hb : At R L b (.cells l.toArray e fr))
    (hv : seg? l off m = some vs) : OpVal P n R cx (.load t x) ty ρ L (.agg vs.toArray) := by
  refine ⟨fun oo a w ho hty hf hs => ?_⟩
  have hl := run_loadCells_seg (P := P) (hb.heap hs) hv
  unfold execOp; rw [ho]
  simp [hf.ev hx, Instr.loadAt, Instr.sureAddr, loadVar, ht w, hz w, hl]
theorem OpVal.arith {op : BinOp} {t t' ty : TypeId} {x y : Operand} {kk : IntKind} {i j r : Int} (hx : ev? ρ x = some (.int kk i)) (hy : ev? ρ y = some (.int kk j))
    (hr : (op = .add ∧ kk.wrap (i + j) = r) ∨ (op = .sub ∧ kk.wrap (i - j) = r) ∨ (op = .mul ∧ kk.wrap (i * j) = r)) : OpVal P n R cx (.binOp op t x y t') ty ρ L (.int kk r) := by
  refine ⟨fun oo a w ho hty hf hs => ?_⟩
  unfold execOp; rw [ho]
  rcases hr with ⟨rfl, rfl⟩ | ⟨rfl, rfl⟩ | ⟨rfl, rfl⟩ <;> simp [hf.ev hx, hf.ev hy, eqGuard, binOp, Op.intArith]
theorem OpVal.add {t t' ty : TypeId} {x y : Operand} {kk : IntKind} {i j r : Int} (hx : ev? ρ x = some (.int kk i)) (hy : ev? ρ y = some (.int kk j)) (hr : kk.wrap (i + j) = r) :
    OpVal P n R cx (.binOp .add t x y t') ty ρ L (.int kk r) := .arith hx hy (.inl ⟨rfl, hr⟩)
theorem OpVal.sub {t t' ty : TypeId} {x y : Operand} {kk : IntKind} {i j r : Int} (hx : ev? ρ x = some (.int kk i)) (hy : ev? ρ y = some (.int kk j)) (hr : kk.wrap (i - j) = r) :
    OpVal P n R cx (.binOp .sub t x y t') ty ρ L (.int kk r) := .arith hx hy (.inr (.inl ⟨rfl, hr⟩))
theorem OpVal.mul {t t' ty : TypeId} {x y : Operand} {kk : IntKind} {i j r : Int} (hx : ev? ρ x = some (.int kk i)) (hy : ev? ρ y = some (.int kk j)) (hr : kk.wrap (i * j) = r) :
    OpVal P n R cx (.binOp .mul t x y t') ty ρ L (.int kk r) := .arith hx hy (.inr (.inr ⟨rfl, hr⟩))
theorem OpVal.quo {t t' ty : TypeId} {x y : Operand} {kk : IntKind} {i j r : Int} (hx : ev? ρ x = some (.int kk i)) (hy : ev? ρ y = some (.int kk j)) (h0 : j ≠ 0) (hr : kk.wrap (i.tdiv j) = r) :
    OpVal P n R cx (.binOp .quo t x y t') ty ρ L (.int kk r) := by
  refine ⟨fun oo a w ho hty hf hs => ?_⟩
  unfold execOp; rw [ho]; subst hr
  simp [hf.ev hx, hf.ev hy, eqGuard, binOp, Op.intDiv, h0]
theorem OpVal.rem {t t' ty : TypeId} {x y : Operand} {kk : IntKind} {i j r : Int} (hx : ev? ρ x = some (.int kk i)) (hy : ev? ρ y = some (.int kk j)) (h0 : j ≠ 0) (hr : i.tmod j = r) :
    OpVal P n R cx (.binOp .rem t x y t') ty ρ L (.int kk r) := by
  refine ⟨fun oo a w ho hty hf hs => ?_⟩
  unfold execOp; rw [ho]; subst hr
  simp [hf.ev hx, hf.ev hy, eqGuard, binOp, Op.intDiv, h0]
theorem OpVal.neg {t ty : TypeId} {x : Operand} {kk : IntKind} {i r : Int} (hx : ev? ρ x = some (.int kk i)) (hr : kk.wrap (-i) = r) :
    OpVal P n R cx (.unOp .neg t x) ty ρ L (.int kk r) := by
  refine ⟨fun oo a w ho hty hf hs => ?_⟩
  unfold execOp; rw [ho]; subst hr
  simp [hf.ev hx, Op.unary, Op.intArith]
theorem OpVal.pickT {c x y : Operand} {ty : TypeId} {b : Bool} {v : Value} (hc : ev? ρ c = some (.bool b)) (hb : b = true) (hx : ev? ρ x = some v) :
    OpVal P n R cx (.pick c x y) ty ρ L v := by
  refine ⟨fun oo a w ho hty hf hs => ?_⟩
  unfold execOp; rw [ho]; subst hb
  simp [hf.ev hc, hf.ev hx, asBool]
theorem OpVal.pickF {c x y : Operand} {ty : TypeId} {b : Bool} {v : Value} (hc : ev? ρ c = some (.bool b)) (hb : b = false) (hy : ev? ρ y = some v) :
    OpVal P n R cx (.pick c x y) ty ρ L v := by
  refine ⟨fun oo a w ho hty hf hs => ?_⟩
  unfold execOp; rw [ho]; subst hb
  simp [hf.ev hc, hf.ev hy, asBool]
theorem OpVal.indexSl {t e ty : TypeId} {x y : Operand} {b off len cap m j : Nat} {kk : IntKind} {i : Int}
    (hx : ev? ρ x = some (.slice (some ⟨b, off, none⟩) len cap)) (hy : ev? ρ y = some (.int kk i)) (ht : P.underlying t = some (.slice e)) (hz : SizeOf P e m)
    (hi : i = (j : Int)) (hj : j < len) : OpVal P n R cx (.indexAddr t x y) ty ρ L (.pointer (some ⟨b, off + j * m, none⟩)) := by
  refine ⟨fun oo a w ho hty hf hs => ?_⟩
  unfold execOp; rw [ho]; subst hi
  simp [hf.ev hx, hf.ev hy, Instr.indexAt, asIntOf, underlying, ht, hz w, hj, Addr.add_none']
theorem OpVal.indexAr {t e ty : TypeId} {x y : Operand} {b off len m j : Nat} {kk : IntKind} {i : Int}
    (hx : ev? ρ x = some (.pointer (some ⟨b, off, none⟩))) (hy : ev? ρ y = some (.int kk i)) (ht : P.underlying t = some (.array len e)) (hz : SizeOf P e m)
    (hi : i = (j : Int)) (hj : j < len) : OpVal P n R cx (.indexAddr t x y) ty ρ L (.pointer (some ⟨b, off + j * m, none⟩)) := by
  refine ⟨fun oo a w ho hty hf hs => ?_⟩
  unfold execOp; rw [ho]; subst hi
  simp [hf.ev hx, hf.ev hy, Instr.indexAt, asIntOf, underlying, ht, hz w, hj, Addr.add_none', Instr.sureAddr]
theorem OpVal.index1 {t e ty : TypeId} {x y : Operand} {l : List Value} {len j : Nat} {kk : IntKind} {i : Int} {v : Value}
    (hx : ev? ρ x = some (.agg l.toArray)) (hy : ev? ρ y = some (.int kk i)) (ht : P.underlying t = some (.array len e)) (ha : IsAgg P e false) (hz : SizeOf P e 1)
    (hi : i = (j : Int)) (hj : j < len) (hv : l[j]? = some v) : OpVal P n R cx (.index t x y) ty ρ L v := by
  refine ⟨fun oo a w ho hty hf hs => ?_⟩
  unfold execOp; rw [ho]; subst hi
  simp [hf.ev hx, hf.ev hy, Instr.index, asIntOf, underlying, ht, hz w, hj, part, ha w, hv]
theorem OpVal.fieldN {t ty : TypeId} {x : Operand} {f m o : Nat} {l vs : List Value} {fs : Array Field} {fd : Field}
    (hx : ev? ρ x = some (.agg l.toArray)) (ht : P.underlying t = some (.struct fs)) (hfd : fs[f]? = some fd) (ho' : fd.offset = o) (ha : IsAgg P fd.type true) (hz : SizeOf P fd.type m)
    (hv : seg? l o m = some vs) : OpVal P n R cx (.field t x f) ty ρ L (.agg vs.toArray) := by
  refine ⟨fun oo a w ho hty hf hs => ?_⟩
  obtain ⟨h1, h2⟩ := seg?_eq l o m hv
  unfold execOp; rw [ho]; subst ho'
  simp [hf.ev hx, Instr.field, underlying, ht, hfd, asAgg, part, ha w, hz w]
  rw [h2]
theorem OpVal.field1 {t ty : TypeId} {x : Operand} {f o : Nat} {l : List Value} {v : Value} {fs : Array Field} {fd : Field}
    (hx : ev? ρ x = some (.agg l.toArray)) (ht : P.underlying t = some (.struct fs)) (hfd : fs[f]? = some fd) (ho' : fd.offset = o) (ha : IsAgg P fd.type false)
    (hv : l[o]? = some v) : OpVal P n R cx (.field t x f) ty ρ L v := by
  refine ⟨fun oo a w ho hty hf hs => ?_⟩
  unfold execOp; rw [ho]; subst ho'
  simp [hf.ev hx, Instr.field, underlying, ht, hfd, asAgg, part, ha w, hv]
theorem OpVal.eqOf {op : BinOp} {t t' ty : TypeId} {x y : Operand} {u v r : Value} (hx : ev? ρ x = some u) (hy : ev? ρ y = some v)
    (hr : ∀ w, (do eqGuard op t x y u v; binOp op t u v : Sem Value).run P w = .ok r w) : OpVal P n R cx (.binOp op t x y t') ty ρ L r := by
  refine ⟨fun oo a w ho hty hf hs => ?_⟩
  unfold execOp; rw [ho]
  simp only [hf.ev hx, hf.ev hy]
  rw [Sem.run_bind, hr w]
  rfl
theorem OpVal.buildOf {t ty : TypeId} {parts : Array (Nat × Operand)} {vs : List (Nat × Value)} {r : Value}
    (hp : ∀ a, Fits n ρ a → (parts.map fun (i, x) => (i, a.eval x)) = vs.toArray) (hr : ∀ w, (Instr.build t vs.toArray).run P w = .ok r w) : OpVal P n R cx (.build t parts) ty ρ L r := by
  refine ⟨fun oo a w ho hty hf hs => ?_⟩
  unfold execOp; rw [ho]
  have := hp a hf
  simp only [this]
  rw [Sem.run_bind, hr w]
  rfl
theorem OpVal.convInt {s d ty : TypeId} {x : Operand} {k0 kk : IntKind} {sd : TypeDesc} {i r : Int} (hx : ev? ρ x = some (.int k0 i)) (hs : P.underlying s = some sd) (hd : P.underlying d = some (.int kk)) (hr : kk.wrap i = r) :
    OpVal P n R cx (.convert s d x) ty ρ L (.int kk r) := by
  refine ⟨fun oo a w ho hty hf hs' => ?_⟩
  unfold execOp; rw [ho]; subst hr
  simp [hf.ev hx, convert, underlying, hs, hd, Conv.intToInt]
def ldv? (T : Tab) (t : Nat) (l : List Value) (off : Nat) : Option Value :=
  match look? T.tys t with
  | some (false, _) => l[off]?
  | some (true, m) => match seg? l off m with
    | some vs => some (.agg ⟨vs⟩)
    | none => none
  | none => none
theorem OpVal.load {T : Tab} (hT : TabOk P T) {t ty : TypeId} {x : Operand} {b off : Nat} {l : List Value} {e : TypeId} {fr : Nat × Nat} {v : Value}
    (hx : ev? ρ x = some (.pointer (some ⟨b, off, none⟩))) (hb : At R L b (.cells l.toArray e fr)) (hv : ldv? T t l off = some v) :
    OpVal P n R cx (.load t x) ty ρ L v := by
  unfold ldv? at hv
  split at hv
  · rename_i m hm
    exact OpVal.load1 (hT.tys _ (look?_mem hm)).1 hx hb hv
  · rename_i m hm
    split at hv
    · rename_i vs hvs
      cases hv
      exact OpVal.loadN (hT.tys _ (look?_mem hm)).1 (hT.tys _ (look?_mem hm)).2 hx hb hvs
    · cases hv
  · cases hv
def natOf? : Int → Option Nat
  | .ofNat j => some j
  | .negSucc _ => none
theorem natOf?_eq {i : Int} {j : Nat} (h : natOf? i = some j) : i = (j : Int) := by
  cases i with
  | ofNat m => simp only [natOf?, Option.some.injEq] at h; subst h; rfl
  | negSucc m => cases h
theorem natOf_nonneg {i : Int} (h : 0 ≤ i) : natOf? i = some i.toNat := by
  cases i with
  | ofNat m => rfl
  | negSucc m => omega
theorem OpVal.ixSl {T : Tab} (hT : TabOk P T) {t e ty : TypeId} {x y : Operand} {b off len cap m j : Nat} {ag : Bool} {kk : IntKind} {i : Int}
    (hx : ev? ρ x = some (.slice (some ⟨b, off, none⟩) len cap)) (hy : ev? ρ y = some (.int kk i)) (ht : look? T.sls t = some e) (hz : look? T.tys e = some (ag, m))
    (hi : natOf? i = some j) (hj : j < len) : OpVal P n R cx (.indexAddr t x y) ty ρ L (.pointer (some ⟨b, off + j * m, none⟩)) :=
  OpVal.indexSl hx hy (hT.sls _ (look?_mem ht)) (hT.tys _ (look?_mem hz)).2 (natOf?_eq hi) hj
theorem OpVal.ixAr {T : Tab} (hT : TabOk P T) {t e ty : TypeId} {x y : Operand} {b off len m j : Nat} {ag : Bool} {kk : IntKind} {i : Int}
    (hx : ev? ρ x = some (.pointer (some ⟨b, off, none⟩))) (hy : ev? ρ y = some (.int kk i)) (ht : look? T.ars t = some (len, e)) (hz : look? T.tys e = some (ag, m))
    (hi : natOf? i = some j) (hj : j < len) : OpVal P n R cx (.indexAddr t x y) ty ρ L (.pointer (some ⟨b, off + j * m, none⟩)) :=
  OpVal.indexAr hx hy (hT.ars _ (look?_mem ht)) (hT.tys _ (look?_mem hz)).2 (natOf?_eq hi) hj
theorem OpVal.ix1 {T : Tab} (hT : TabOk P T) {t e ty : TypeId} {x y : Operand} {l : List Value} {len j : Nat} {kk : IntKind} {i : Int} {v : Value}
    (hx : ev? ρ x = some (.agg l.toArray)) (hy : ev? ρ y = some (.int kk i)) (ht : look? T.ars t = some (len, e)) (hz : look? T.tys e = some (false, 1))
    (hi : natOf? i = some j) (hj : j < len) (hv : l[j]? = some v) : OpVal P n R cx (.index t x y) ty ρ L v :=
  OpVal.index1 hx hy (hT.ars _ (look?_mem ht)) (hT.tys _ (look?_mem hz)).1 (hT.tys _ (look?_mem hz)).2 (natOf?_eq hi) hj hv
theorem run_equal_of {t : TypeId} {x y : Value} {b : Bool} {w : World} (h : ∀ d, (Op.equalIn (d + 1) t x y).run P w = .ok b w) : (Op.equal t x y).run P w = .ok b w := h 9999
theorem OpVal.eqBool {T : Tab} (hT : TabOk P T) {t t' ty : TypeId} {x y : Operand} {a b : Bool} (hx : ev? ρ x = some (.bool a)) (hy : ev? ρ y = some (.bool b)) (ht : hasNat T.bools t = true) :
    OpVal P n R cx (.binOp .eql t x y t') ty ρ L (.bool (a == b)) :=
  .eqOf hx hy fun w => by
    have := hT.bools _ (hasNat_mem ht)
    have h := run_equal_of (P := P) (t := t) (x := .bool a) (y := .bool b) (b := a == b) (w := w) (fun d => by simp [Op.equalIn, underlying, this])
    simp [eqGuard, binOp, h]
theorem OpVal.neBool {T : Tab} (hT : TabOk P T) {t t' ty : TypeId} {x y : Operand} {a b : Bool} (hx : ev? ρ x = some (.bool a)) (hy : ev? ρ y = some (.bool b)) (ht : hasNat T.bools t = true) :
    OpVal P n R cx (.binOp .neq t x y t') ty ρ L (.bool (!(a == b))) :=
  .eqOf hx hy fun w => by
    have := hT.bools _ (hasNat_mem ht)
    have h := run_equal_of (P := P) (t := t) (x := .bool a) (y := .bool b) (b := a == b) (w := w) (fun d => by simp [Op.equalIn, underlying, this])
    simp [eqGuard, binOp, h]
theorem OpVal.eqStr {t t' ty : TypeId} {x y : Operand} {a b : ByteArray} (hx : ev? ρ x = some (.string a)) (hy : ev? ρ y = some (.string b)) :
    OpVal P n R cx (.binOp .eql t x y t') ty ρ L (.bool (a.toList == b.toList)) :=
  .eqOf hx hy fun w => by simp [eqGuard, binOp, Op.stringOp]
theorem OpVal.neStr {t t' ty : TypeId} {x y : Operand} {a b : ByteArray} (hx : ev? ρ x = some (.string a)) (hy : ev? ρ y = some (.string b)) :
    OpVal P n R cx (.binOp .neq t x y t') ty ρ L (.bool (!(a.toList == b.toList))) :=
  .eqOf hx hy fun w => by simp [eqGuard, binOp, Op.stringOp]
theorem OpVal.eqNil {T : Tab} (hT : TabOk P T) {t t' ty : TypeId} {x y : Operand} {a : Option Addr} {e : Nat} (hx : ev? ρ x = some (.pointer a)) (hy : ev? ρ y = some (.pointer none)) (ht : look? T.ptrs t = some e) :
    OpVal P n R cx (.binOp .eql t x y t') ty ρ L (.bool a.isNone) :=
  .eqOf hx hy fun w => by
    have := hT.ptrs _ (look?_mem ht)
    have h := run_equal_of (P := P) (t := t) (x := .pointer a) (y := .pointer none) (b := a.isNone) (w := w) (fun d => by cases a <;> simp [Op.equalIn, underlying, this])
    simp [eqGuard, binOp, h]
theorem OpVal.neNil {T : Tab} (hT : TabOk P T) {t t' ty : TypeId} {x y : Operand} {a : Option Addr} {e : Nat} (hx : ev? ρ x = some (.pointer a)) (hy : ev? ρ y = some (.pointer none)) (ht : look? T.ptrs t = some e) :
    OpVal P n R cx (.binOp .neq t x y t') ty ρ L (.bool (!a.isNone)) :=
  .eqOf hx hy fun w => by
    have := hT.ptrs _ (look?_mem ht)
    have h := run_equal_of (P := P) (t := t) (x := .pointer a) (y := .pointer none) (b := a.isNone) (w := w) (fun d => by cases a <;> simp [Op.equalIn, underlying, this])
    simp [eqGuard, binOp, h]
theorem OpVal.eqNilSl {T : Tab} (hT : TabOk P T) {t t' ty : TypeId} {x y : Operand} {a : Option Addr} {u v e : Nat} (hx : ev? ρ x = some (.slice a u v)) (hy : ev? ρ y = some (.slice none 0 0)) (ht : look? T.sls t = some e) :
    OpVal P n R cx (.binOp .eql t x y t') ty ρ L (.bool a.isNone) :=
  .eqOf hx hy fun w => by
    have := hT.sls _ (look?_mem ht)
    have h := run_equal_of (P := P) (t := t) (x := .slice a u v) (y := .slice none 0 0) (b := a.isNone) (w := w) (fun d => by cases a <;> simp [Op.equalIn, underlying, this])
    simp [eqGuard, binOp, h]
theorem OpVal.conv {T : Tab} (hT : TabOk P T) {s d ty : TypeId} {x : Operand} {k0 k1 kk : IntKind} {i r : Int} (hx : ev? ρ x = some (.int k0 i)) (hs : look? T.ints s = some k1) (hd : look? T.ints d = some kk) (hr : kk.wrap i = r) :
    OpVal P n R cx (.convert s d x) ty ρ L (.int kk r) := .convInt hx (hT.ints _ (look?_mem hs)) (hT.ints _ (look?_mem hd)) hr
inductive Upd (b : Nat) (o o' : Obj) : List HL → List HL → Prop
  | here {L : List HL} : Upd b o o' ([(b, o)] :: L) ([(b, o')] :: L)
  | there {c : HL} {L L' : List HL} : Upd b o o' L L' → Upd b o o' (c :: L) (c :: L')
theorem Upd.split {b : Nat} {o o' : Obj} {L L' : List HL} (h : Upd b o o' L L') : ∃ A B : HL, L.flatten = A ++ (b, o) :: B ∧ L'.flatten = A ++ (b, o') :: B := by
  induction h with
  | here => exact ⟨[], _, rfl, rfl⟩
  | @there c _ _ _ ih =>
    obtain ⟨A, B, h1, h2⟩ := ih
    exact ⟨c ++ A, B, by simp [h1], by simp [h2]⟩
theorem St.upd {w0 w w' : World} {S0 : List Nat} {b : Nat} {o o' : Obj} {L L' : List HL} (hs : St w0 S0 R L w) (hu : Upd b o o' L L')
    (hb : w'.heap[b]? = some o') (ho : ∀ j, j ≠ b → w'.heap[j]? = w.heap[j]?) (hz : w'.heap.size = w.heap.size) (he : w'.os = w.os ∧ w'.tape = w.tape ∧ w'.output = w.output) : St w0 S0 R L' w' := by
  obtain ⟨A, B, h1, h2⟩ := hu.split
  have hnd := hs.nd
  have hown := hs.own
  have hhas := hs.has
  rw [h1] at hnd hown hhas
  have hids : ids L'.flatten = ids (A ++ (b, o) :: B) := by rw [h2]; simp [ids]
  have hne : ∀ p ∈ A ++ B, p.1 ≠ b := by
    intro p hp e
    have : (ids (A ++ (b, o) :: B)).Perm (b :: ids (A ++ B)) := by simp [ids]
    have h3 := this.nodup_iff.1 hnd
    simp only [List.nodup_cons] at h3
    exact h3.1 (by rw [← e]; exact List.mem_map_of_mem (f := (·.1)) hp)
  have hbo := hown b (by simp [ids])
  refine ⟨?_, by rw [hids]; exact hnd, ?_, by rw [hids]; exact hown, by rw [hz]; exact hs.sz, hs.ro, ⟨he.1.trans hs.env.1, he.2.1.trans hs.env.2.1, he.2.2.trans hs.env.2.2⟩⟩
  · intro p hp
    rw [h2] at hp
    rcases List.mem_append.1 hp with hp | hp
    · rw [ho _ (hne p (by simp [hp]))]; exact hhas p (by simp [hp])
    · rcases List.mem_cons.1 hp with rfl | hp
      · exact hb
      · rw [ho _ (hne p (by simp [hp]))]; exact hhas p (by simp [hp])
  · intro j hj hjS
    have : j ≠ b := by
      rintro rfl
      rcases hbo with h | h
      · exact hjS h
      · omega
    rw [ho j this]
    exact hs.fr j hj hjS
theorem setRow_size (w : World) (g : Nat) (cs : Array Value) : (w.setRow g cs).heap.size = w.heap.size := by simp [World.setRow]
theorem run_storeCells_splice {w : World} {b off : Nat} {l l' vs : List Value} {e : TypeId} (hg : w.heap[b]? = some (.cells l.toArray e (0, 0)))
    (hv : splice? l off vs = some l') (h1 : allOne vs = true) : (storeCells ⟨b, off, none⟩ vs).run P w = .ok () (w.setRow b l'.toArray) := by
  obtain ⟨h2, h3⟩ := splice?_eq l off vs hv
  have := run_storeCells_at (P := P) b off e vs 0 l.toArray w hg (by simpa using h2) (allOne_mem h1)
  rw [this, h3]
  simp
theorem W.storeCells {all : Array Oper} {oo : Oper} {l : List Oper} {t : TypeId} {x y : Operand} {b off m : Nat} {L' : List HL} {cl cl' vs : List Value} {e : TypeId} {v : Value}
    (ho : oo.op = .store t x y) (hg : oo.guard = none) (hd : oo.dst = none)
    (hz : SizeOf P t m) (hx : ev? ρ x = some (.pointer (some ⟨b, off, none⟩))) (hy : ev? ρ y = some v) (hc : cells? v = some vs) (hl : vs.length = m) (h1 : allOne vs = true)
    (hv : splice? cl off vs = some cl') (hu : Upd b (.cells cl.toArray e (0, 0)) (.cells cl'.toArray e (0, 0)) L L')
    (hk : W P n R cx (.ops all l :: k) ρ L') : W P n R cx (.ops all (oo :: l) :: k) ρ L := by
  refine ⟨fun a w hf hs => ?_⟩
  obtain ⟨A, B, e1, -⟩ := hu.split
  have hb : w.heap[b]? = some (.cells cl.toArray e (0, 0)) := hs.has (b, .cells cl.toArray e (0, 0)) (by rw [e1]; simp)
  have hst := run_storeCells_splice (P := P) hb hv h1
  have hcs := cells?_eq hc
  simp only [mean, wpList, Region.wanted, hg, if_true]
  refine .inl ?_
  unfold Oper.wp execOp
  rw [ho]
  simp [hf.ev hx, hf.ev hy, Instr.storeAt, Instr.sureAddr, storeVar, hz w, hcs, hl, hst, hd, Oper.upon, Act.put]
  refine hk.go a _ hf (hs.upd hu (setRow_heap w b _ _ e _ hb) (fun j hj => setRow_other w b j _ hj) (setRow_size ..) ⟨rfl, rfl, rfl⟩)
theorem St.new {w0 w : World} {S0 : List Nat} {L : List HL} (hs : St w0 S0 R L w) (o : Obj) : St w0 S0 R ([(w.heap.size, o)] :: L) (w.alloc o) := by
  have hlt : ∀ p ∈ L.flatten, p.1 < w.heap.size := fun p hp => (Array.getElem?_eq_some_iff.1 (hs.has p hp)).1
  refine ⟨?_, ?_, ?_, ?_, by simpa using Nat.le_succ_of_le hs.sz, hs.ro, hs.env⟩
  · intro p hp
    simp only [List.flatten_cons, List.singleton_append, List.mem_cons] at hp
    rcases hp with rfl | hp
    · exact heap_alloc_new w o
    · rw [heap_alloc_old w o (hlt p hp)]; exact hs.has p hp
  · simp only [List.flatten_cons, List.singleton_append, ids, List.map_cons, List.nodup_cons]
    refine ⟨fun h => ?_, hs.nd⟩
    obtain ⟨p, hp, hp2⟩ := List.mem_map.1 h
    have := hlt p hp
    omega
  · intro j hj hjS
    rw [heap_alloc_old w o (Nat.lt_of_lt_of_le hj hs.sz)]
    exact hs.fr j hj hjS
  · intro j hj
    simp only [List.flatten_cons, List.singleton_append, ids, List.map_cons, List.mem_cons] at hj
    rcases hj with rfl | hj
    · exact .inr hs.sz
    · exact hs.own j hj
structure NewOf (P : Program) (n : Nat) (R : HL) (cx : Cx) (op : Op) (ty : TypeId) (ρ : Env) (L : List HL) (o : Obj) (f : Nat → Value) : Prop where
  go : ∀ (oo : Oper) a w, oo.op = op → oo.type = ty → Fits n ρ a → St cx.w0 cx.S0 R L w → ∃ m, (execOp a.eval oo).run P w = .ok (.value (f w.heap.size)) ({ w with drawn := m }.alloc o)
theorem W.newOf {all : Array Oper} {d : Nat} {op : Op} {ty : TypeId} {pos : String} {af : Array Edge} {l : List Oper} {o : Obj} {f : Nat → Value}
    (h : ∀ (oo : Oper) a w, oo.op = op → oo.type = ty → Fits n ρ a → St cx.w0 cx.S0 R L w → ∃ m, (execOp a.eval oo).run P w = .ok (.value (f w.heap.size)) ({ w with drawn := m }.alloc o)) (hd : d < n)
    (hk : ∀ b, W P n R cx (.ops all l :: k) ((d, f b) :: ρ) ([(b, o)] :: L)) : W P n R cx (.ops all (⟨some d, op, ty, pos, af, none⟩ :: l) :: k) ρ L := by
  refine ⟨fun a w hf hs => ?_⟩
  obtain ⟨m, hr⟩ := h ⟨some d, op, ty, pos, af, none⟩ a w rfl rfl hf hs
  simp only [mean, wpList, Region.wanted, if_true]
  refine .inl ?_
  unfold Oper.wp
  rw [hr]
  have hs' : St cx.w0 cx.S0 R L { w with drawn := m } := ⟨hs.has, hs.nd, hs.fr, hs.own, hs.sz, hs.ro, hs.env⟩
  exact (hk w.heap.size).go _ _ (hf.put hd _) (hs'.new o)
theorem W.store {T : Tab} (hT : TabOk P T) {all : Array Oper} {l : List Oper} {t ty : TypeId} {x y : Operand} {pos : String} {af : Array Edge} {b off m : Nat} {ag : Bool} {L' : List HL} {cl cl' vs : List Value} {e : TypeId} {v : Value}
    (hx : ev? ρ x = some (.pointer (some ⟨b, off, none⟩))) (hu : Upd b (.cells cl.toArray e (0, 0)) (.cells cl'.toArray e (0, 0)) L L')
    (hy : ev? ρ y = some v) (hc : cells? v = some vs) (hz : look? T.tys t = some (ag, m)) (hl : vs.length = m) (h1 : allOne vs = true)
    (hv : splice? cl off vs = some cl')
    (hk : W P n R cx (.ops all l :: k) ρ L') : W P n R cx (.ops all (⟨none, .store t x y, ty, pos, af, none⟩ :: l) :: k) ρ L :=
  W.storeCells (oo := ⟨none, .store t x y, ty, pos, af, none⟩) rfl rfl rfl (hT.tys _ (look?_mem hz)).2 hx hy hc hl h1 hv hu hk
theorem NewOf.alloc {t ty : TypeId} {z : Value} {zs : List Value} (hz : ZeroOf P t z) (hc : cells? z = some zs) :
    NewOf P n R cx (.alloc t) ty ρ L (.cells zs.toArray t (0, 0)) (fun b => .pointer (some ⟨b, 0, none⟩)) := by
  refine ⟨fun oo a w ho hty hf hs => ⟨w.drawn, ?_⟩⟩
  unfold execOp; rw [ho]
  show _ = Result.ok _ (w.alloc _)
  simp [Instr.alloc, hz w, newVar, newRow, cells?_eq hc]
theorem W.alloc {all : Array Oper} {d : Nat} {t ty : TypeId} {pos : String} {af : Array Edge} {l : List Oper} {z : Value} {zs : List Value}
    (hz : ZeroOf P t z) (hc : cells? z = some zs) (hd : d < n)
    (hk : ∀ b, W P n R cx (.ops all l :: k) ((d, .pointer (some ⟨b, 0, none⟩)) :: ρ) ([(b, .cells zs.toArray t (0, 0))] :: L)) :
    W P n R cx (.ops all (⟨some d, .alloc t, ty, pos, af, none⟩ :: l) :: k) ρ L := W.newOf (NewOf.alloc hz hc).go hd hk
theorem NewOf.new {T : Tab} (hT : TabOk P T) {t ty : TypeId} {z : Value} {zs : List Value} (hz : look? T.zeros t = some z) (hc : cells? z = some zs) :
    NewOf P n R cx (.alloc t) ty ρ L (.cells zs.toArray t (0, 0)) (fun b => .pointer (some ⟨b, 0, none⟩)) := NewOf.alloc (hT.zeros _ (look?_mem hz)) hc
theorem W.new {T : Tab} (hT : TabOk P T) {all : Array Oper} {d : Nat} {t ty : TypeId} {pos : String} {af : Array Edge} {l : List Oper} {z : Value} {zs : List Value}
    (hz : look? T.zeros t = some z) (hc : cells? z = some zs) (hd : d < n)
    (hk : ∀ b, W P n R cx (.ops all l :: k) ((d, .pointer (some ⟨b, 0, none⟩)) :: ρ) ([(b, .cells zs.toArray t (0, 0))] :: L)) :
    W P n R cx (.ops all (⟨some d, .alloc t, ty, pos, af, none⟩ :: l) :: k) ρ L := W.alloc (hT.zeros _ (look?_mem hz)) hc hd hk
theorem NewOf.box {t ty : TypeId} {x : Operand} {z : Value} {zs : List Value} (hx : ev? ρ x = some z) (hc : cells? z = some zs) :
    NewOf P n R cx (.box t x) ty ρ L (.cells zs.toArray t (0, 0)) (fun b => .pointer (some ⟨b, 0, none⟩)) := by
  refine ⟨fun oo a w ho hty hf hs => ⟨w.drawn, ?_⟩⟩
  unfold execOp; rw [ho]
  show _ = Result.ok _ (w.alloc _)
  simp [Instr.box, newVar, newRow, hf.ev hx, cells?_eq hc]
theorem W.box {all : Array Oper} {d : Nat} {t ty : TypeId} {x : Operand} {pos : String} {af : Array Edge} {l : List Oper} {z : Value} {zs : List Value}
    (hx : ev? ρ x = some z) (hc : cells? z = some zs) (hd : d < n)
    (hk : ∀ b, W P n R cx (.ops all l :: k) ((d, .pointer (some ⟨b, 0, none⟩)) :: ρ) ([(b, .cells zs.toArray t (0, 0))] :: L)) :
    W P n R cx (.ops all (⟨some d, .box t x, ty, pos, af, none⟩ :: l) :: k) ρ L := W.newOf (NewOf.box hx hc).go hd hk
theorem W.guardGo {all : Array Oper} {d : Option Nat} {op : Op} {ty : TypeId} {pos : String} {af : Array Edge} {l : List Oper} {j s : Nat} {want b : Bool}
    (hj : (all[j]?).bind (·.dst) = some s) (hb : ρ.get? s = some (.bool b)) (hw : b = want) (hk : W P n R cx (.ops all (⟨d, op, ty, pos, af, none⟩ :: l) :: k) ρ L) :
    W P n R cx (.ops all (⟨d, op, ty, pos, af, some (j, want)⟩ :: l) :: k) ρ L := by
  refine ⟨fun a w hf hs => ?_⟩
  have h := hk.go a w hf hs
  have hy : yielded all a.tmps j = some b := by
    have := hf.at_ s _ hb
    unfold yielded
    rw [hj]
    simp only [Option.bind_some]
    simp only [Array.getD_eq_getD_getElem?] at this
    cases hh : a.tmps[s]? with
    | none => rw [hh] at this; simp [undef] at this
    | some u => rw [hh] at this; simp at this; subst this; rfl
  simp only [mean, wpList] at h ⊢
  rw [if_pos (by simp [Region.wanted])] at h
  rw [if_pos (by simp [Region.wanted, hy, hw])]
  exact h
theorem W.guardSkip {all : Array Oper} {d : Nat} {op : Op} {ty : TypeId} {pos : String} {af : Array Edge} {l : List Oper} {j s : Nat} {want b : Bool}
    (hj : (all[j]?).bind (·.dst) = some s) (hb : ρ.get? s = some (.bool b)) (hw : b = !want) (hd : d < n) (hk : W P n R cx (.ops all l :: k) ((d, undef) :: ρ) L) :
    W P n R cx (.ops all (⟨some d, op, ty, pos, af, some (j, want)⟩ :: l) :: k) ρ L := by
  refine ⟨fun a w hf hs => ?_⟩
  have hy : yielded all a.tmps j = some b := by
    have := hf.at_ s _ hb
    unfold yielded
    rw [hj]
    simp only [Option.bind_some]
    simp only [Array.getD_eq_getD_getElem?] at this
    cases hh : a.tmps[s]? with
    | none => rw [hh] at this; simp [undef] at this
    | some u => rw [hh] at this; simp at this; subst this; rfl
  simp only [mean, wpList]
  rw [if_neg (by simp only [Region.wanted, hy, hw]; cases want <;> simp)]
  exact hk.go _ _ (hf.put hd _) hs
theorem W.guardUndef {all : Array Oper} {d : Nat} {op : Op} {ty : TypeId} {pos : String} {af : Array Edge} {l : List Oper} {j s : Nat} {want : Bool}
    (hj : (all[j]?).bind (·.dst) = some s) (hb : ρ.get? s = some undef) (hd : d < n) (hk : W P n R cx (.ops all l :: k) ((d, undef) :: ρ) L) :
    W P n R cx (.ops all (⟨some d, op, ty, pos, af, some (j, want)⟩ :: l) :: k) ρ L := by
  refine ⟨fun a w hf hs => ?_⟩
  have hy : yielded all a.tmps j = none := by
    have := hf.at_ s _ hb
    unfold yielded
    rw [hj]
    simp only [Option.bind_some]
    simp only [Array.getD_eq_getD_getElem?] at this
    cases hh : a.tmps[s]? with
    | none => rfl
    | some u => rw [hh] at this; simp at this; subst this; rfl
  simp only [mean, wpList]
  rw [if_neg (by simp [Region.wanted, hy])]
  exact hk.go _ _ (hf.put hd _) hs
theorem W.ite {c : Operand} {x y : Code} {b : Bool} (hc : ev? ρ c = some (.bool b)) (ht : b = true → W P n R cx (.code x :: k) ρ L) (hf : b = false → W P n R cx (.code y :: k) ρ L) :
    W P n R cx (.code (.cond c x y) :: k) ρ L :=
  ⟨fun a w hfi hs => wp_cond_split (hfi.ev hc) (fun h => (ht h).go a w hfi hs) (fun h => (hf h).go a w hfi hs)⟩
theorem W.iteT {c : Operand} {x y : Code} {b : Bool} (hc : ev? ρ c = some (.bool b)) (hb : b = true) (ht : W P n R cx (.code x :: k) ρ L) :
    W P n R cx (.code (.cond c x y) :: k) ρ L := W.ite hc (fun _ => ht) (fun h => by rw [hb] at h; cases h)
theorem W.iteF {c : Operand} {x y : Code} {b : Bool} (hc : ev? ρ c = some (.bool b)) (hb : b = false) (hf : W P n R cx (.code y :: k) ρ L) :
    W P n R cx (.code (.cond c x y) :: k) ρ L := W.ite hc (fun h => by rw [hb] at h; cases h) (fun _ => hf)
theorem W.env {ρ' : Env} (h : Env.sub ρ' ρ) (hk : W P n R cx k ρ' L) : W P n R cx k ρ L := ⟨fun a w hf hs => hk.go a w (hf.sub h) hs⟩
inductive Pick : List HL → HL → List HL → Prop
  | here {c : HL} {L : List HL} : Pick (c :: L) c L
  | there {c d : HL} {L L' : List HL} : Pick L c L' → Pick (d :: L) c (d :: L')
inductive Sel : List HL → List HL → List HL → Prop
  | nil {L : List HL} : Sel L [] L
  | cons {c : HL} {cs L L1 L2 : List HL} : Pick L c L1 → Sel L1 cs L2 → Sel L (c :: cs) L2
theorem Pick.perm {L L' : List HL} {c : HL} (h : Pick L c L') : L.flatten.Perm (c ++ L'.flatten) := by
  induction h with
  | here => simp
  | @there c d L L' _ ih =>
    simp only [List.flatten_cons]
    refine (List.Perm.append_left d ih).trans ?_
    rw [← List.append_assoc, ← List.append_assoc]
    exact List.Perm.append_right _ List.perm_append_comm
theorem Sel.perm {L M L' : List HL} (h : Sel L M L') : L.flatten.Perm (M.flatten ++ L'.flatten) := by
  induction h with
  | nil => simp
  | cons hp _ ih =>
    simp only [List.flatten_cons, List.append_assoc]
    exact hp.perm.trans (List.Perm.append_left _ ih)
theorem St.perm {w0 w : World} {S0 : List Nat} {L M : List HL} {X : HL} (hs : St w0 S0 R L w) (h : L.flatten.Perm (M.flatten ++ X)) : St w0 S0 R M w := by
  have hi : (ids L.flatten).Perm (ids M.flatten ++ ids X) := by simpa [ids] using h.map (·.1)
  refine ⟨fun p hp => hs.has p (h.mem_iff.2 (by simp [hp])), ?_, hs.fr, fun b hb => hs.own b (hi.mem_iff.2 (by simp [hb])), hs.sz, hs.ro, hs.env⟩
  exact (List.nodup_append.1 (hi.nodup_iff.1 hs.nd)).1
theorem W.keep {M L' : List HL} (h : Sel L M L') (hk : W P n R cx k ρ M) : W P n R cx k ρ L := ⟨fun a w hf hs => hk.go a w hf (hs.perm h.perm)⟩
theorem W.regroup {M : List HL} (h : L.flatten = M.flatten) (hk : W P n R cx k ρ M) : W P n R cx k ρ L :=
  ⟨fun a w hf hs => hk.go a w hf (hs.perm (X := []) (by rw [h]; simp))⟩
def norm? {α : Type} : List α → Option (List α)
  | [] => some []
  | c :: r => match norm? r with
    | some r' => some (c :: r')
    | none => none
theorem norm?_eq {α : Type} : ∀ {l l' : List α}, norm? l = some l' → l = l'
  | [], _, h => by cases h; rfl
  | c :: r, l', h => by
    simp only [norm?] at h
    split at h
    · rename_i r' hr
      cases h
      rw [norm?_eq hr]
    · cases h
theorem W.step {T : Tab} (hT : TabOk P T) {s s' : List Kont} {ρ ρ' : Env} {L L' : List HL} (h1 : Sl.drive T n 3000 s ρ = some (s', ρ')) (h2 : norm? L = some L') (h : W P n R cx s' ρ' L') : W P n R cx s ρ L := by
  rw [norm?_eq h2]
  exact W.drive hT _ h1 h
theorem St.call {w0 w w' : World} {S0 : List Nat} {L pre rest L' : List HL} {ro : HL} (hs : St w0 S0 R L w) (h : Sel L pre rest) (hc : St w (ids pre.flatten) ro L' w') :
    St w0 S0 R (L' ++ rest) w' := by
  have hp := h.perm
  have hi : (ids L.flatten).Perm (ids pre.flatten ++ ids rest.flatten) := by simpa [ids] using hp.map (·.1)
  obtain ⟨n1, n2, n3⟩ := List.nodup_append.1 (hi.nodup_iff.1 hs.nd)
  have hrest : ∀ p ∈ rest.flatten, p.1 < w.heap.size ∧ p.1 ∉ ids pre.flatten ∧ w.heap[p.1]? = some p.2 := by
    intro p hpm
    have h1 := hs.has p (hp.mem_iff.2 (by simp [hpm]))
    exact ⟨(Array.getElem?_eq_some_iff.1 h1).1, fun hm => n3 _ hm _ (List.mem_map_of_mem (f := (·.1)) hpm) rfl, h1⟩
  refine ⟨?_, ?_, ?_, ?_, Nat.le_trans hs.sz hc.sz, hs.ro, ⟨hc.env.1.trans hs.env.1, hc.env.2.1.trans hs.env.2.1, hc.env.2.2.trans hs.env.2.2⟩⟩
  · intro p hpm
    simp only [List.flatten_append, List.mem_append] at hpm
    rcases hpm with hpm | hpm
    · exact hc.has p hpm
    · obtain ⟨h1, h2, h3⟩ := hrest p hpm
      rw [hc.fr _ h1 h2]
      exact h3
  · simp only [List.flatten_append, ids, List.map_append]
    refine List.nodup_append.2 ⟨hc.nd, n2, fun x hx y hy e => ?_⟩
    subst e
    obtain ⟨p, hpm, rfl⟩ := List.mem_map.1 hy
    obtain ⟨h1, h2, -⟩ := hrest p hpm
    rcases hc.own _ hx with h | h
    · exact h2 h
    · omega
  · intro b hb hbS
    have hb' : b ∉ ids pre.flatten := fun hm => by
      rcases hs.own b (hi.mem_iff.2 (by simp [hm])) with h | h
      · exact hbS h
      · omega
    rw [hc.fr b (Nat.lt_of_lt_of_le hb hs.sz) hb', hs.fr b hb hbS]
  · intro b hb
    simp only [List.flatten_append, ids, List.map_append, List.mem_append] at hb
    rcases hb with hb | hb
    · rcases hc.own b hb with h | h
      · exact hs.own b (hi.mem_iff.2 (by simp [h]))
      · exact .inr (Nat.le_trans hs.sz h)
    · exact hs.own b (hi.mem_iff.2 (List.mem_append.2 (.inr hb)))
def RoIn (R : HL) (rest : List HL) (ro : HL) : Prop := ∀ p ∈ ro, p ∈ rest.flatten ∨ p ∈ R
theorem RoIn.nil {rest : List HL} : RoIn R rest [] := fun _ h => by cases h
theorem RoIn.cons {rest : List HL} {b : Nat} {o : Obj} {ro : HL} (h : At R rest b o) (h2 : RoIn R rest ro) : RoIn R rest ((b, o) :: ro) := by
  intro p hp
  rcases List.mem_cons.1 hp with rfl | hp
  · exact h
  · exact h2 p hp
theorem RoIn.append {rest : List HL} {A B : HL} (h : RoIn R rest A) (h2 : RoIn R rest B) : RoIn R rest (A ++ B) := by
  intro p hp
  rcases List.mem_append.1 hp with hp | hp
  · exact h p hp
  · exact h2 p hp
theorem RoIn.own {rest : List HL} {H : HL} (i : Nat) (h : rest[i]? = some H) : RoIn R rest H := fun _ hp => .inl (List.mem_flatten.2 ⟨_, List.mem_of_getElem? h, hp⟩)
theorem RoIn.same {rest : List HL} : RoIn R rest R := fun _ hp => .inr hp
theorem Ctr.use {f : FuncId} {args : List Value} {pre rest : List HL} {ro : HL} {post : Value → List HL → Prop} (hsp : Ctr P f args pre ro post)
    {w0 w : World} {S0 : List Nat} (hs : St w0 S0 R L w) (h : Sel L pre rest) (hro : RoIn R rest ro) :
    Calls P f args.toArray w fun e w' => ∃ v L', e = .returned v ∧ post v L' ∧ St w0 S0 R (L' ++ rest) w' := by
  have hp := h.perm
  have hi : (ids L.flatten).Perm (ids pre.flatten ++ ids rest.flatten) := by simpa [ids] using hp.map (·.1)
  obtain ⟨n1, n2, n3⟩ := List.nodup_append.1 (hi.nodup_iff.1 hs.nd)
  refine (hsp.go w (fun p hpm => hs.has p (hp.mem_iff.2 (by simp [hpm]))) n1 (fun p hpm => ?_)).mono ?_
  · rcases hro p hpm with h1 | h1
    · exact ⟨hs.has p (hp.mem_iff.2 (by simp [h1])), fun hm => n3 _ hm _ (List.mem_map_of_mem (f := (·.1)) h1) rfl⟩
    · obtain ⟨h2, h3⟩ := hs.ro p h1
      have hlt := (Array.getElem?_eq_some_iff.1 h2).1
      refine ⟨by rw [hs.fr _ hlt h3]; exact h2, fun hm => ?_⟩
      rcases hs.own _ (hi.mem_iff.2 (List.mem_append.2 (.inl hm))) with h | h
      · exact h3 h
      · omega
  · rintro e w' ⟨v, L', he, hpost, hst⟩
    exact ⟨v, L', he, hpost, hs.call h hst⟩
theorem W.call {all : Array Oper} {d : Nat} {c : Call} {ty : TypeId} {pos : String} {af : Array Edge} {l : List Oper} {fo : Operand} {xs : Array Operand} {tys : Array TypeId}
    {f : FuncId} {fst vs cap args : List Value} {pre rest : List HL} {ro : HL} {post : Value → List HL → Prop}
    (hc : c = ⟨.value fo, xs, tys⟩) (hfo : ev? ρ fo = some (.func (.func f) fst.toArray cap.toArray)) (hxs : evs? ρ xs.toList = some vs) (hargs : fst ++ vs ++ cap = args)
    (hsp : Ctr P f args pre ro post) (hsel : Sel L pre rest) (hro : RoIn R rest ro) (hd : d < n)
    (hk : ∀ v L', post v L' → W P n R cx (.ops all l :: k) ((d, v) :: ρ) (L' ++ rest)) :
    W P n R cx (.ops all (⟨some d, .call c, ty, pos, af, none⟩ :: l) :: k) ρ L := by
  refine ⟨fun a w hf hs => ?_⟩
  have hxs' := hf.evs hxs
  have hx : xs.map a.eval = vs.toArray := by cases xs; simp at hxs'; simp [hxs']
  simp only [mean, wpList, Region.wanted, if_true]
  refine .inl ?_
  unfold Oper.wp execOp
  subst hc
  have hcall := hsp.callable
  simp only [resolve, Deferred.ofValue, hf.ev hfo, hx, Sem.run_bind, Sem.run_pure, Result.andThen_ok, invoke]
  rw [show (fst.toArray ++ vs.toArray ++ cap.toArray) = args.toArray from by rw [← hargs]; simp, hcall]
  simp only [Oper.upon]
  refine (hsp.use hs hsel hro).mono ?_
  rintro e w' ⟨v, L', rfl, hpost, hst⟩
  exact (hk v L' hpost).go _ _ (hf.put hd v) hst
theorem OpVal.callX {c : Call} {ty : TypeId} {fo : Operand} {xs : Array Operand} {tys : Array TypeId} {f : FuncId} {vs : List Value} {v : Value}
    (hc : c = ⟨.value fo, xs, tys⟩) (hfo : ev? ρ fo = some (.func (.func f) #[] #[])) (hxs : evs? ρ xs.toList = some vs)
    (hr : ∀ w, (callFunc f vs.toArray).run P w = .ok (.value v) w) : OpVal P n R cx (.call c) ty ρ L v := by
  refine ⟨fun oo a w ho hty hf hs => ?_⟩
  have hxs' := hf.evs hxs
  have hx : xs.map a.eval = vs.toArray := by cases xs; simp at hxs'; simp [hxs']
  subst hc
  unfold execOp; rw [ho]
  simp only [resolve, Deferred.ofValue, hf.ev hfo, hx, Sem.run_bind, Sem.run_pure, Result.andThen_ok, invoke]
  rw [show ((#[] : Array Value) ++ vs.toArray ++ #[]) = vs.toArray from by simp, hr w]
theorem W.loop {c : Code} (I : Nat → Env → List HL → Prop) (m0 : Nat) (ρ0 : Env) (L0 : List HL) {X : List HL} (hsub : Env.sub ρ0 ρ) (hsel : Sel L L0 X) (h0 : I m0 ρ0 L0)
    (round : ∀ m ρ1 L1, I m ρ1 L1 → W P n R cx (.code c :: .rnd (fun ρ2 L2 => ∃ m', m' < m ∧ I m' ρ2 L2) :: k) ρ1 L1) : W P n R cx (.code (.loop c) :: k) ρ L := by
  refine ⟨fun a w hf hs => ?_⟩
  have hs0 := hs.perm hsel.perm
  have hf0 := hf.sub hsub
  let J : Nat → Act → World → Prop := fun m a w => ∃ ρ1 L1, I m ρ1 L1 ∧ Fits n ρ1 a ∧ St cx.w0 cx.S0 R L1 w
  have key : ∀ (m : Nat) (a : Act) (w : World), J m a w → ∀ (b : Frame) (kk : List Item) (cs : List Frame),
      ∃ e a' w', mean P n R cx k e a' w' ∧ Arrives P (lone (b.at a (.code c :: .inLoop c :: kk)) cs w) b kk cs e a' w' := by
    intro m
    induction m using Nat.strongRecOn with
    | _ m ih =>
      intro a w hJ b kk cs
      obtain ⟨ρ1, L1, hI, hf1, hs1⟩ := hJ
      have hr := (round m ρ1 L1 hI).go a w hf1 hs1
      simp only [mean] at hr
      obtain ⟨e, a1, w1, hq, harr⟩ := hr b (.inLoop c :: kk) cs
      cases e with
      | normal =>
        obtain ⟨ρ2, L2, ⟨m', hm', hI'⟩, hf2, hs2⟩ := hq
        obtain ⟨e2, a2, w2, hq2, harr2⟩ := ih m' hm' a1 w1 ⟨ρ2, L2, hI', hf2, hs2⟩ b kk cs
        exact ⟨e2, a2, w2, hq2, .of_steps (Steps.trans harr (.one step_inLoop)) harr2⟩
      | exit id => exact ⟨_, a1, w1, hq, .pass (x := .inLoop c) rfl (fun _ _ => .inl (by simp)) harr⟩
      | goto l => exact ⟨_, a1, w1, hq, .pass (x := .inLoop c) rfl (fun _ _ => .inl (by simp)) harr⟩
      | ret => exact ⟨_, a1, w1, hq, .pass (x := .inLoop c) rfl (fun _ _ => .inl (by simp)) harr⟩
      | panic ch => exact ⟨_, a1, w1, hq, .pass (x := .inLoop c) rfl (fun _ _ => .inl (by simp)) harr⟩
      | outgrown => exact ⟨_, a1, w1, hq, .pass (x := .inLoop c) rfl (fun _ _ => .inl (by simp)) harr⟩
  intro b kk cs
  obtain ⟨e, a', w', hq, harr⟩ := key m0 a w ⟨ρ0, L0, h0, hf0, hs0⟩ b kk cs
  exact ⟨e, a', w', hq, .of_steps (.one step_loop) harr⟩
theorem W.rnd {J : Env → List HL → Prop} (ρ1 : Env) (L1 : List HL) {X : List HL} (hsub : Env.sub ρ1 ρ) (hsel : Sel L L1 X) (h : J ρ1 L1) : W P n R cx (.rnd J :: k) ρ L :=
  ⟨fun _ _ hf hs => ⟨ρ1, L1, h, hf.sub hsub, hs.perm hsel.perm⟩⟩
theorem wp_mono2 {o : Oper} {a : Act} {w : World} {K K' : Act → World → Prop} {Q Q' : Exit → Act → World → Prop} (h : ∀ a w, K a w → K' a w) (hq : ∀ e a w, Q e a w → Q' e a w)
    (hh : o.wp P a w K Q) : o.wp P a w K' Q' := by
  unfold Oper.wp at *
  generalize (execOp a.eval o).run P w = r at *
  cases r with
  | ok nx w' =>
    cases nx <;> simp only [Oper.upon] at hh ⊢ <;> try exact hh
    case value => exact h _ _ hh
    case skip => exact h _ _ hh
    case defer => exact h _ _ hh
    case enter =>
      refine hh.mono fun e w'' he => ?_
      cases e with
      | returned v => exact h _ _ he
      | panicked ch => exact hq _ _ _ he
      | outgrown => obtain ⟨a0, w0, h0⟩ := he; exact ⟨a0, w0, hq _ _ _ h0⟩
    case row => exact hh.mono fun _ _ he => h _ _ he
  | halt x w' =>
    cases x <;> simp only [Oper.upon] at hh ⊢ <;> try exact hh
    exact hq _ _ _ hh
theorem wpList_mono' {ops : Array Oper} {Q Q' : Exit → Act → World → Prop} (hq : ∀ e a w, Q e a w → Q' e a w) :
    ∀ (l : List Oper) (a : Act) (w : World), wpList P ops Q l a w → wpList P ops Q' l a w
  | [], _, _, h => hq _ _ _ h
  | o :: l, a, w, h => by
    simp only [wpList] at h ⊢
    split
    · rename_i hg
      rw [if_pos hg] at h
      rcases h with h | ⟨h1, a0, w0, h2⟩
      · exact .inl (wp_mono2 (fun a w hh => wpList_mono' hq l a w hh) hq h)
      · exact .inr ⟨h1, a0, w0, hq _ _ _ h2⟩
    · rename_i hg
      rw [if_neg hg] at h
      exact wpList_mono' hq l _ w h
theorem W.cut {x : Kont} (J : Env → List HL → Prop) (hx : W P n R cx (x :: .rnd J :: k) ρ L) (hk : ∀ ρ1 L1, J ρ1 L1 → W P n R cx k ρ1 L1) (hp : match x with | .blk _ => False | .scp => False | _ => True) :
    W P n R cx (x :: k) ρ L := by
  refine ⟨fun a w hf hs => ?_⟩
  have h := hx.go a w hf hs
  have hm : ∀ e a w, mean P n R cx (.rnd J :: k) e a w → mean P n R cx k e a w := by
    intro e a w he
    cases e with
    | normal =>
      obtain ⟨ρ1, L1, hJ, hf1, hs1⟩ := he
      exact (hk ρ1 L1 hJ).go a w hf1 hs1
    | _ => exact he
  cases x with
  | code c => exact wp_mono h hm
  | blk id => exact hp.elim
  | scp => exact hp.elim
  | ops all l =>
    simp only [mean] at h ⊢
    exact wpList_mono' hm l a w h
  | rnd J' => exact h
inductive ResOk (P : Program) (R : HL) (ρ : Env) (L : List HL) : List ResultVar → List Value → Prop
  | nil : ResOk P R ρ L [] []
  | tmp {t : Nat} {v : Value} {rs : List ResultVar} {vs : List Value} : ρ.get? t = some v → ResOk P R ρ L rs vs → ResOk P R ρ L (.tmp t :: rs) (v :: vs)
  | cell1 {t ty b off : Nat} {l : List Value} {e : TypeId} {fr : Nat × Nat} {v : Value} {rs : List ResultVar} {vs : List Value} :
      IsAgg P ty false → ρ.get? t = some (.pointer (some ⟨b, off, none⟩)) → At R L b (.cells l.toArray e fr) → l[off]? = some v → ResOk P R ρ L rs vs → ResOk P R ρ L (.cell t ty :: rs) (v :: vs)
  | cellN {t ty b off m : Nat} {l us : List Value} {e : TypeId} {fr : Nat × Nat} {rs : List ResultVar} {vs : List Value} :
      IsAgg P ty true → SizeOf P ty m → ρ.get? t = some (.pointer (some ⟨b, off, none⟩)) → At R L b (.cells l.toArray e fr) → seg? l off m = some us → ResOk P R ρ L rs vs → ResOk P R ρ L (.cell t ty :: rs) (.agg us.toArray :: vs)
theorem ResOk.cell {T : Tab} (hT : TabOk P T) {t ty b off : Nat} {l : List Value} {e : TypeId} {fr : Nat × Nat} {v : Value} {rs : List ResultVar} {vs : List Value}
    (h : ρ.get? t = some (.pointer (some ⟨b, off, none⟩))) (hb : At R L b (.cells l.toArray e fr)) (hv : ldv? T ty l off = some v) (hr : ResOk P R ρ L rs vs) : ResOk P R ρ L (.cell t ty :: rs) (v :: vs) := by
  unfold ldv? at hv
  split at hv
  · rename_i m hm
    exact .cell1 (hT.tys _ (look?_mem hm)).1 h hb hv hr
  · rename_i m hm
    split at hv
    · rename_i us hus
      cases hv
      exact .cellN (hT.tys _ (look?_mem hm)).1 (hT.tys _ (look?_mem hm)).2 h hb hus hr
    · cases hv
  · cases hv
def pack : List Value → Value
  | [v] => v
  | vs => .tuple vs.toArray
def resF (a : Act) : ResultVar → Sem Value
  | .tmp t => pure (a.tmps.getD t undef)
  | .cell p t => do loadVar t (← asAddr (a.tmps.getD p undef))
theorem mapM_step {f : ResultVar → Sem Value} {r : ResultVar} {rs : List ResultVar} {v : Value} {vs : List Value} {w : World} (h1 : (f r).run P w = .ok v w) (h2 : (rs.mapM f).run P w = .ok vs w) :
    ((r :: rs).mapM f).run P w = .ok (v :: vs) w := by
  rw [List.mapM_cons, Sem.run_bind, h1]
  simp only [Result.andThen_ok]
  rw [Sem.run_bind, h2]
  rfl
theorem ResOk.run {rs : List ResultVar} {vs : List Value} (h : ResOk P R ρ L rs vs) {a : Act} {w : World} (hf : Fits n ρ a) {w0 : World} {S0 : List Nat} (hs : St w0 S0 R L w) :
    (rs.mapM (resF a)).run P w = .ok vs w := by
  induction h with
  | nil => rfl
  | tmp h1 _ ih =>
    refine mapM_step ?_ ih
    simp only [resF, hf.at_ _ _ h1]
    rfl
  | @cell1 t ty b off l e fr v rs vs ht h1 hb hv _ ih =>
    have hc : w.cell? ⟨b, off, none⟩ = some v := by rw [cell_of_row w b off _ e fr (hb.heap hs)]; simpa using hv
    refine mapM_step ?_ ih
    simp only [resF, hf.at_ _ _ h1]
    simp [asAddr, loadVar, ht w, hc]
  | @cellN t ty b off m l us e fr rs vs ht hz h1 hb hv _ ih =>
    have hl := run_loadCells_seg (P := P) (hb.heap hs) hv
    refine mapM_step ?_ ih
    simp only [resF, hf.at_ _ _ h1]
    simp [asAddr, loadVar, ht w, hz w, hl]
theorem W.ret (h : Fin n R cx ρ L) : W P n R cx (.code .ret :: k) ρ L := ⟨fun a w hf hs => wp_ret (mean_ret k a w (h.go a w hf hs))⟩
def EnvOk (args : List Value) : Env → Prop
  | [] => True
  | (t, v) :: r => args[t]? = some v ∧ EnvOk args r
theorem EnvOk.get {args : List Value} : ∀ {ρ : Env}, EnvOk args ρ → ∀ {t : Nat} {v : Value}, ρ.get? t = some v → args[t]? = some v
  | [], _, _, _, h => by cases h
  | (k, u) :: r, he, t, v, h => by
    simp only [Env.get?] at h
    split at h
    · rename_i hk; subst hk; cases h; exact he.1
    · exact EnvOk.get he.2 h
structure FinOk (P : Program) (R : HL) (rs : List ResultVar) (post : Value → List HL → Prop) (ρ : Env) (L : List HL) : Prop where
  go : ∃ vs L', ResOk P R ρ L rs vs ∧ (∃ X : HL, L.flatten.Perm (L'.flatten ++ X)) ∧ post (pack vs) L'
theorem FinOk.mk' {rs : List ResultVar} {post : Value → List HL → Prop} {vs : List Value} {M X : List HL} (L' : List HL) (h : ResOk P R ρ L rs vs) (hsel : Sel L M X) (hm : M.flatten = L'.flatten)
    (hp : post (pack vs) L') : FinOk P R rs post ρ L := ⟨⟨vs, L', h, ⟨X.flatten, by rw [← hm]; exact hsel.perm⟩, hp⟩⟩
theorem Ctr.enter {f : FuncId} {fn : Func} {c : Code} {args : List Value} {pre : List HL} {ro : HL} {post : Value → List HL → Prop} (rs : List ResultVar) (ρ0 : Env)
    (hf : P.funcs[f]? = some fn) (hb : fn.body = some c) (hn : fn.ntmps = n) (hr : fn.results.toList = rs) (hl : args.length ≤ n)
    (hcall : ∀ (args : Array Value) (w : World), (callFunc f args).run P w = .ok (.enter f args) w) (he : EnvOk args ρ0)
    (h : ∀ cx : Cx, (∀ ρ L, FinOk P ro rs post ρ L → Fin n ro cx ρ L) → (∀ ρ L, FinOk P ro rs post ρ L → W P n ro cx [] ρ L) → W P n ro cx [.code c] ρ0 pre) : Ctr P f args pre ro post := by
  refine ⟨hcall, fun w hhas hnd hro => ?_⟩
  refine calls_of_wp hf hb ?_
  let Rr : Ending → World → Prop := fun e w' => ∃ v L', e = .returned v ∧ post v L' ∧ St w (ids pre.flatten) ro L' w'
  let cx : Cx := ⟨w, ids pre.flatten, bodyPost P fn Rr⟩
  have fin : ∀ (ρ : Env) (L : List HL) a w', FinOk P ro rs post ρ L → Fits n ρ a → St w (ids pre.flatten) ro L w' → a.defers = [] ∧ ∃ v, (results fn a.tmps).run P w' = .ok v w' ∧ Rr (.returned v) w' := by
    intro ρ L a w' hfin hfi hs
    obtain ⟨vs, L', hres, ⟨X, hX⟩, hpost⟩ := hfin.go
    have hrun := hres.run (P := P) hfi hs
    refine ⟨hfi.df, pack vs, ?_, pack vs, L', rfl, hpost, hs.perm hX⟩
    have hm : (fn.results.mapM (resF a) : Sem (Array Value)).run P w' = .ok vs.toArray w' := by
      rw [Array.mapM_eq_mapM_toList, hr]
      simp only [Sem.run_map]
      rw [hrun]
      rfl
    have hres' : results fn a.tmps = (do let vs ← fn.results.mapM (resF a); pure (if h : vs.size = 1 then vs[0] else .tuple vs) : Sem Value) := by
      unfold results
      congr 1
    rw [hres', Sem.run_bind, hm]
    match vs with
    | [] => rfl
    | [v] => rfl
    | v :: u :: r => simp [pack]
  have hW := h cx (fun ρ L hfin => ⟨fun a w' hfi hs => fin ρ L a w' hfin hfi hs⟩) (fun ρ L hfin => ⟨fun a w' hfi hs => fin ρ L a w' hfin hfi hs⟩)
  have hst : St w (ids pre.flatten) ro pre w := ⟨hhas, hnd, fun _ _ _ => rfl, fun b hb => .inl hb, Nat.le_refl _, hro, ⟨rfl, rfl, rfl⟩⟩
  have hfit : Fits n ρ0 { tmps := args.toArray ++ Array.replicate (fn.ntmps - args.toArray.size) undef, defers := [] } := by
    refine ⟨rfl, by simp [hn]; omega, fun t v ht => ?_⟩
    have h1 := he.get ht
    have hlt := (List.getElem?_eq_some_iff.1 h1).1
    have h2 := (List.getElem?_eq_some_iff.1 h1).2
    simp [Array.getElem?_append, hlt, h2]
  have := hW.go _ w hfit hst
  exact this
end
end Go.Sl
namespace Go.Sl
open Go
section
variable {P : Program} {n : Nat} {R : HL} {cx : Cx} {k : List Kont} {ρ : Env} {L : List HL}
def qz (m : Bool) (P : Program) (R : HL) (cx : Cx) (L : List HL) (all : Array Oper) (K : Act → Prop) (l : List Oper) (a : Act) : Prop :=
  match m with
  | true => wpQuiet P all (fun w => St cx.w0 cx.S0 R L w) K l a
  | false => ∀ w, St cx.w0 cx.S0 R L w → wpStill P all w K l a
structure WZ (m : Bool) (P : Program) (n : Nat) (R : HL) (cx : Cx) (all : Array Oper) (l : List Oper) (ρ : Env) (L : List HL) (K : Env → Prop) : Prop where
  go : ∀ a, Fits n ρ a → qz m P R cx L all (fun a' => ∃ ρ', Fits n ρ' a' ∧ K ρ') l a
variable {m : Bool} {all : Array Oper} {K : Env → Prop}
theorem WZ.nil (h : K ρ) : WZ m P n R cx all [] ρ L K := ⟨fun a hf => by cases m; exact fun w _ => ⟨ρ, hf, h⟩; exact ⟨ρ, hf, h⟩⟩
theorem WZ.val {d : Nat} {op : Op} {ty : TypeId} {pos : String} {af : Array Edge} {l : List Oper} {v : Value}
    (h : OpVal P n R cx op ty ρ L v) (hd : d < n) (hk : WZ m P n R cx all l ((d, v) :: ρ) L K) : WZ m P n R cx all (⟨some d, op, ty, pos, af, none⟩ :: l) ρ L K := by
  refine ⟨fun a hf => ?_⟩
  have hr := fun w => h.go ⟨some d, op, ty, pos, af, none⟩ a w rfl rfl hf
  have hk' := hk.go _ (hf.put hd v)
  cases m with
  | true =>
    simp only [qz, wpQuiet] at hk' ⊢
    rw [if_pos (by simp [Region.wanted])]
    exact ⟨v, fun w hw => by unfold Oper.quietAt; rw [hr w hw]; exact ⟨rfl, rfl⟩, hk'⟩
  | false =>
    simp only [qz, wpStill] at hk' ⊢
    intro w hw
    rw [if_pos (by simp [Region.wanted])]
    unfold Oper.still
    rw [hr w hw]
    exact ⟨rfl, hk' w hw⟩
theorem yielded_of {a : Act} {j s : Nat} {v : Value} (hf : Fits n ρ a) (hj : (all[j]?).bind (·.dst) = some s) (hb : ρ.get? s = some v) :
    yielded all a.tmps j = (match v with | .bool b => some b | _ => none) := by
  have := hf.at_ s _ hb
  unfold yielded
  rw [hj]
  simp only [Option.bind_some]
  simp only [Array.getD_eq_getD_getElem?] at this
  cases hh : a.tmps[s]? with
  | none => rw [hh] at this; simp [undef] at this; subst this; rfl
  | some u => rw [hh] at this; simp at this; subst this; cases u <;> rfl
theorem WZ.guardGo {d : Option Nat} {op : Op} {ty : TypeId} {pos : String} {af : Array Edge} {l : List Oper} {j s : Nat} {want b : Bool}
    (hj : (all[j]?).bind (·.dst) = some s) (hb : ρ.get? s = some (.bool b)) (hw : b = want) (hk : WZ m P n R cx all (⟨d, op, ty, pos, af, none⟩ :: l) ρ L K) :
    WZ m P n R cx all (⟨d, op, ty, pos, af, some (j, want)⟩ :: l) ρ L K := by
  refine ⟨fun a hf => ?_⟩
  have hy := yielded_of (all := all) hf hj hb
  have h := hk.go a hf
  cases m with
  | true =>
    simp only [qz, wpQuiet] at h ⊢
    rw [if_pos (by simp [Region.wanted])] at h
    rw [if_pos (by simp [Region.wanted, hy, hw])]
    exact h
  | false =>
    simp only [qz, wpStill] at h ⊢
    intro w hw'
    have h := h w hw'
    rw [if_pos (by simp [Region.wanted])] at h
    rw [if_pos (by simp [Region.wanted, hy, hw])]
    exact h
theorem WZ.skip_ {d : Nat} {op : Op} {ty : TypeId} {pos : String} {af : Array Edge} {l : List Oper} {g : Option (Nat × Bool)}
    (hg : ∀ a, Fits n ρ a → Region.wanted ⟨some d, op, ty, pos, af, g⟩ (yielded all a.tmps) = false) (hd : d < n) (hk : WZ m P n R cx all l ((d, undef) :: ρ) L K) :
    WZ m P n R cx all (⟨some d, op, ty, pos, af, g⟩ :: l) ρ L K := by
  refine ⟨fun a hf => ?_⟩
  have h := hk.go _ (hf.put hd undef)
  cases m with
  | true =>
    simp only [qz, wpQuiet] at h ⊢
    rw [if_neg (by simp [hg a hf])]
    exact h
  | false =>
    simp only [qz, wpStill] at h ⊢
    intro w hw'
    rw [if_neg (by simp [hg a hf])]
    exact h w hw'
theorem WZ.guardSkip {d : Nat} {op : Op} {ty : TypeId} {pos : String} {af : Array Edge} {l : List Oper} {j s : Nat} {want b : Bool}
    (hj : (all[j]?).bind (·.dst) = some s) (hb : ρ.get? s = some (.bool b)) (hw : b = !want) (hd : d < n) (hk : WZ m P n R cx all l ((d, undef) :: ρ) L K) :
    WZ m P n R cx all (⟨some d, op, ty, pos, af, some (j, want)⟩ :: l) ρ L K :=
  WZ.skip_ (fun a hf => by have hy := yielded_of (all := all) hf hj hb; simp only [Region.wanted, hy, hw]; cases want <;> simp) hd hk
theorem WZ.guardUndef {d : Nat} {op : Op} {ty : TypeId} {pos : String} {af : Array Edge} {l : List Oper} {j s : Nat} {want : Bool}
    (hj : (all[j]?).bind (·.dst) = some s) (hb : ρ.get? s = some undef) (hd : d < n) (hk : WZ m P n R cx all l ((d, undef) :: ρ) L K) :
    WZ m P n R cx all (⟨some d, op, ty, pos, af, some (j, want)⟩ :: l) ρ L K :=
  WZ.skip_ (fun a hf => by have hy := yielded_of (all := all) hf hj hb; simp [Region.wanted, hy, undef]) hd hk
theorem WZ.call {d : Nat} {c : Call} {ty : TypeId} {pos : String} {af : Array Edge} {l : List Oper} {fo : Operand} {xs : Array Operand} {tys : Array TypeId}
    {f : FuncId} {fst vs cap args : List Value} {ro : HL} {post : Value → List HL → Prop} (v0 : Value)
    (hc : c = ⟨.value fo, xs, tys⟩) (hfo : ev? ρ fo = some (.func (.func f) fst.toArray cap.toArray)) (hxs : evs? ρ xs.toList = some vs) (hargs : fst ++ vs ++ cap = args)
    (hsp : Ctr P f args [] ro post) (hro : RoIn R L ro) (hd : d < n) (hv : ∀ v L', post v L' → v = v0)
    (hk : WZ true P n R cx all l ((d, v0) :: ρ) L K) : WZ true P n R cx all (⟨some d, .call c, ty, pos, af, none⟩ :: l) ρ L K := by
  refine ⟨fun a hf => ?_⟩
  have h := hk.go _ (hf.put hd v0)
  have hxs' := hf.evs hxs
  have hx : xs.map a.eval = vs.toArray := by cases xs; simp at hxs'; simp [hxs']
  simp only [qz, wpQuiet] at h ⊢
  rw [if_pos (by simp [Region.wanted])]
  refine ⟨v0, fun w hs => ?_, h⟩
  unfold Oper.quietAt execOp
  subst hc
  have hcall := hsp.callable
  simp only [resolve, Deferred.ofValue, hf.ev hfo, hx, Sem.run_bind, Sem.run_pure, Result.andThen_ok, invoke]
  rw [show (fst.toArray ++ vs.toArray ++ cap.toArray) = args.toArray from by rw [← hargs]; simp, hcall]
  refine ⟨rfl, (hsp.use hs (Sel.nil (L := L)) hro).mono ?_⟩
  rintro e w' ⟨v, L', rfl, hpost, hst⟩
  refine ⟨by rw [hv v L' hpost], hst.perm (M := L) (X := L'.flatten) ?_⟩
  simp only [List.flatten_append]
  exact List.perm_append_comm
def zdrive (T : Tab) (n : Nat) : List Oper → Env → Option (List Oper × Env)
  | [], ρ => some ([], ρ)
  | o :: l, ρ => match o with
    | ⟨some d, op, _, _, _, none⟩ => match pop? T ρ op with
      | some v => if Nat.blt d n then zdrive T n l ((d, v) :: ρ) else none
      | none => some (o :: l, ρ)
    | o => some (o :: l, ρ)
theorem WZ.drive {T : Tab} (hT : TabOk P T) : ∀ {l l' : List Oper} {ρ ρ' : Env}, zdrive T n l ρ = some (l', ρ') → WZ m P n R cx all l' ρ' L K → WZ m P n R cx all l ρ L K
  | [], l', ρ, ρ', e, h => by simp only [zdrive, Option.some.injEq, Prod.mk.injEq] at e; obtain ⟨rfl, rfl⟩ := e; exact h
  | o :: l, l', ρ, ρ', e, h => by
    unfold zdrive at e
    split at e
    · split at e
      · rename_i v hv
        split at e
        · rename_i hd
          exact WZ.val (pop_val hT hv) (by simpa using hd) (WZ.drive hT e h)
        · cases e
      · simp only [Option.some.injEq, Prod.mk.injEq] at e; obtain ⟨rfl, rfl⟩ := e; exact h
    · simp only [Option.some.injEq, Prod.mk.injEq] at e; obtain ⟨rfl, rfl⟩ := e; exact h
theorem St.drawn {w0 w : World} {S0 : List Nat} {L : List HL} (hs : St w0 S0 R L w) (i : Nat) : St w0 S0 R L { w with drawn := i } := ⟨hs.has, hs.nd, hs.fr, hs.own, hs.sz, hs.ro, hs.env⟩
theorem wpQuiet_mono {C : World → Prop} {K K' : Act → Prop} (h : ∀ a, K a → K' a) : ∀ (l : List Oper) (a : Act), wpQuiet P all C K l a → wpQuiet P all C K' l a
  | [], a, hh => h a hh
  | o :: l, a, hh => by
    simp only [wpQuiet] at hh ⊢
    split
    · rename_i hg; rw [if_pos hg] at hh; exact Oper.quiet_mono (fun a => wpQuiet_mono h l a) hh
    · rename_i hg; rw [if_neg hg] at hh; exact wpQuiet_mono h l _ hh
theorem wpStill_mono {w : World} {K K' : Act → Prop} (h : ∀ a, K a → K' a) : ∀ (l : List Oper) (a : Act), wpStill P all w K l a → wpStill P all w K' l a
  | [], a, hh => h a hh
  | o :: l, a, hh => by
    simp only [wpStill] at hh ⊢
    split
    · rename_i hg; rw [if_pos hg] at hh; exact Oper.still_mono (fun a => wpStill_mono h l a) hh
    · rename_i hg; rw [if_neg hg] at hh; exact wpStill_mono h l _ hh
theorem W.draw {id : Nat} {ops : Array Oper} (hm : P.follows .mixedOrders = true) (hB : Region.lexB .any ops = true)
    (h : WZ true P n R cx ops ops.toList ρ L (fun ρ' => W P n R cx k ρ' L)) : W P n R cx (.code (.region id ops true) :: k) ρ L := by
  refine ⟨fun a w hf hs => ?_⟩
  have h1 := h.go a hf
  simp only [qz] at h1
  simp only [mean]
  refine wp_region_quiet (C := fun w => St cx.w0 cx.S0 R L w) hm hB (hs.drawn _) ?_
  refine wpQuiet_mono ?_ _ _ h1
  rintro a' ⟨ρ', hf', hW⟩ w' hs'
  exact hW.go a' w' hf' hs'
theorem W.drawTail (N : Nat) {id : Nat} {l : List Oper} (hm : P.follows .mixedOrders = true) (hB : Region.lexTailB .any l.toArray N = true)
    (h : WZ false P n R cx l.toArray (l.take N) ρ L (fun ρ' => W P n R cx (.ops l.toArray (l.drop N) :: k) ρ' L)) : W P n R cx (.code (.region id l.toArray true) :: k) ρ L := by
  refine ⟨fun a w hf hs => ?_⟩
  have h1 := h.go a hf
  simp only [qz] at h1
  simp only [mean]
  refine wp_region_still_tail N hm hB ?_
  refine wpStill_mono ?_ _ _ (h1 _ (hs.drawn _))
  rintro a' ⟨ρ', hf', hW⟩
  exact hW.go a' _ hf' (hs.drawn _)
end
end Go.Sl
namespace Go.Sl
open Go
section
variable {P : Program} {n : Nat} {R : HL} {cx : Cx} {k : List Kont} {ρ : Env} {L : List HL}
structure Prim (P : Program) (n : Nat) (R : HL) (cx : Cx) (op : Op) (ty : TypeId) (ρ : Env) (L : List HL) (pre : List HL) (post : Value → List HL → Prop) : Prop where
  go : ∀ (oo : Oper) a w, oo.op = op → oo.type = ty → Fits n ρ a → St cx.w0 cx.S0 R L w → ∃ v L' w', (execOp a.eval oo).run P w = .ok (.value v) w' ∧ post v L' ∧ St w (ids pre.flatten) [] L' w'
theorem W.prim {all : Array Oper} {d : Nat} {op : Op} {ty : TypeId} {pos : String} {af : Array Edge} {l : List Oper} {pre rest : List HL} {post : Value → List HL → Prop}
    (h : Prim P n R cx op ty ρ L pre post) (hsel : Sel L pre rest) (hd : d < n) (hk : ∀ v L', post v L' → W P n R cx (.ops all l :: k) ((d, v) :: ρ) (L' ++ rest)) :
    W P n R cx (.ops all (⟨some d, op, ty, pos, af, none⟩ :: l) :: k) ρ L := by
  refine ⟨fun a w hf hs => ?_⟩
  obtain ⟨v, L', w', hr, hp, hst⟩ := h.go ⟨some d, op, ty, pos, af, none⟩ a w rfl rfl hf hs
  simp only [mean, wpList, Region.wanted, if_true]
  refine .inl ?_
  unfold Oper.wp
  rw [hr]
  exact (hk v L' hp).go _ _ (hf.put hd v) (hs.call hsel hst)
theorem W.primU {all : Array Oper} {op : Op} {ty : TypeId} {pos : String} {af : Array Edge} {l : List Oper} {pre rest : List HL} {post : Value → List HL → Prop}
    (h : Prim P n R cx op ty ρ L pre post) (hsel : Sel L pre rest) (hk : ∀ v L', post v L' → W P n R cx (.ops all l :: k) ρ (L' ++ rest)) :
    W P n R cx (.ops all (⟨none, op, ty, pos, af, none⟩ :: l) :: k) ρ L := by
  refine ⟨fun a w hf hs => ?_⟩
  obtain ⟨v, L', w', hr, hp, hst⟩ := h.go ⟨none, op, ty, pos, af, none⟩ a w rfl rfl hf hs
  simp only [mean, wpList, Region.wanted, if_true]
  refine .inl ?_
  unfold Oper.wp
  rw [hr]
  exact (hk v L' hp).go _ _ (by simpa [Act.put] using hf) (hs.call hsel hst)
theorem St.none_ (w : World) (i : Nat) : St w (ids ([] : List HL).flatten) [] [] { w with drawn := i } :=
  ⟨fun _ h => by simp at h, by simp [ids], fun _ _ _ => rfl, fun _ h => by simp [ids] at h, Nat.le_refl _, fun _ h => (by cases h), ⟨rfl, rfl, rfl⟩⟩
theorem St.fresh (w : World) (i : Nat) (S : List Nat) (o : Obj) : St w S [] [[(w.heap.size, o)]] ({ w with drawn := i }.alloc o) := by
  refine ⟨?_, by simp [ids], ?_, ?_, by simp, fun _ h => (by cases h), ⟨rfl, rfl, rfl⟩⟩
  · intro p hp
    simp at hp
    subst hp
    exact heap_alloc_new { w with drawn := i } o
  · intro b hb _
    exact heap_alloc_old { w with drawn := i } o hb
  · intro b hb
    simp [ids] at hb
    subst hb
    exact .inr (Nat.le_refl _)
theorem St.row (w : World) (i b : Nat) (l : List Value) (cs : Array Value) (e : TypeId) (fr : Nat × Nat) (hg : w.heap[b]? = some (.cells cs e fr)) :
    St w [b] [] [[(b, .cells l.toArray e fr)]] ({ w with drawn := i }.setRow b l.toArray) := by
  refine ⟨?_, by simp [ids], ?_, ?_, by simp [World.setRow], fun _ h => (by cases h), ⟨rfl, rfl, rfl⟩⟩
  · intro p hp
    simp at hp
    subst hp
    exact setRow_heap { w with drawn := i } b _ _ e fr hg
  · intro j _ hj
    exact setRow_other { w with drawn := i } b j _ (by simpa using hj)
  · intro j hj
    simp [ids] at hj
    simp [hj]
def Own (m e : Nat) (cs : List Value) (a : Option Addr) (len cap : Nat) (H : HL) : Prop :=
  cs.length = len * m ∧ ((a = none ∧ len = 0 ∧ cap = 0 ∧ H = []) ∨ ∃ b l, a = some ⟨b, 0, none⟩ ∧ H = [(b, .cells (List.toArray l) e (0, 0))] ∧ len ≤ cap ∧ l.length = cap * m ∧ l.take (len * m) = cs)
theorem Own.nil (m e : Nat) : Own m e [] none 0 0 [] := ⟨by simp, .inl ⟨rfl, rfl, rfl, rfl⟩⟩
theorem Own.some {m e : Nat} {cs : List Value} {a : Option Addr} {len cap : Nat} {H : HL} (h : Own m e cs a len cap H) (h0 : 0 < len) :
    ∃ b l, a = some ⟨b, 0, none⟩ ∧ H = [(b, .cells (List.toArray l) e (0, 0))] ∧ len ≤ cap ∧ l.length = cap * m ∧ l.take (len * m) = cs := by
  rcases h.2 with ⟨_, h1, _⟩ | h1
  · omega
  · exact h1
theorem Own.exact {m e : Nat} {cs : List Value} {len : Nat} (b : Nat) (h : cs.length = len * m) : Own m e cs (.some ⟨b, 0, none⟩) len len [(b, .cells cs.toArray e (0, 0))] :=
  ⟨h, .inr ⟨b, cs, rfl, rfl, Nat.le_refl _, h, by rw [← h]; simp⟩⟩
theorem zeroCells_len (z : Array Value) (j : Nat) : (Builtin.zeroCells z j).toList.length = j * z.size := by simp [Builtin.zeroCells]
theorem append_some {e m bytes : Nat} (hi : InfOk P e m bytes) {t ty : TypeId} {s x : Operand} {cs news : List Value} {a : Option Addr} {len cap nx cxx bx ox : Nat} {H : HL}
    {lx : List Value} {ex : TypeId} {frx : Nat × Nat} (ht : P.underlying t = some (.slice e)) (hs : ev? ρ s = some (.slice a len cap)) (ho : Own m e cs a len cap H)
    (hH : ∀ p ∈ H, p ∈ L.flatten) (hx : ev? ρ x = some (.slice (some ⟨bx, ox, none⟩) nx cxx)) (hb : At R L bx (.cells lx.toArray ex frx)) (hn : seg? lx ox (nx * m) = some news)
    (h1 : allOne news = true) (hbig : (len + nx) * bytes ≤ 140737488355328) (hbig2 : len + nx ≤ 140737488355328) :
    Prim P n R cx (.call ⟨.builtin .append, #[s, x], #[t, t]⟩) ty ρ L [H] (fun v L' => ∃ a' cap' H', v = .slice a' (len + nx) cap' ∧ L' = [H'] ∧ Own m e (cs ++ news) a' (len + nx) cap' H') := by
  obtain ⟨i, z, hi1, hi2, rfl, rfl, hi5, hi6⟩ := hi
  obtain ⟨hn1, hn2⟩ := seg?_eq lx ox (nx * i.size) hn
  have hnl : news.length = nx * i.size := by rw [hn2]; simp; omega
  refine ⟨fun oo ac w hoo hty hf hst => ?_⟩
  have hcell : ∀ j v, news[j]? = some v → w.cell? ((⟨bx, ox, none⟩ : Addr).add j) = some v := by
    intro j v hj
    rw [Addr.add_none', cell_of_row w bx (ox + j) _ ex frx (hb.heap hst)]
    have hjm : j < nx * i.size := by rw [← hnl]; exact (List.getElem?_eq_some_iff.1 hj).1
    rw [hn2, List.getElem?_take, if_pos hjm, List.getElem?_drop] at hj
    simpa using hj
  have hrun : ∀ r w', (Builtin.append_ #[t, t] oo.type #[.slice a len cap, .slice (some ⟨bx, ox, none⟩) nx cxx]).run P w = .ok r w' → (execOp ac.eval oo).run P w = .ok (.value r) w' := by
    intro r w' hr
    unfold execOp
    rw [hoo]
    simp [resolve, invoke, builtin, hf.ev hs, hf.ev hx, hr]
  have grownL : ∀ old : Nat, Own i.size e (cs ++ news) (some ⟨w.heap.size, 0, none⟩) (len + nx) (grownCap w (len + nx) old e)
      [(w.heap.size, .cells (cs ++ news ++ (Builtin.zeroCells z.cells (grownCap w (len + nx) old e - (len + nx))).toList).toArray e (0, 0))] := by
    intro old
    have hge := grownCap_ge w (len + nx) old e
    have hlen : (cs ++ news).length = (len + nx) * i.size := by rw [List.length_append, ho.1, hnl, Nat.add_mul]
    refine ⟨hlen, .inr ⟨_, _, rfl, rfl, hge, ?_, ?_⟩⟩
    · rw [List.length_append, hlen, zeroCells_len, hi5, ← Nat.add_mul]
      congr 1
      omega
    · rw [← hlen]; exact List.take_left
  rcases ho.2 with ⟨rfl, rfl, rfl, rfl⟩ | ⟨b, l, rfl, rfl, hlc, hll, htake⟩
  · have hc0 : cs = [] := List.eq_nil_of_length_eq_zero (by simpa using ho.1)
    subst hc0
    by_cases h0 : nx = 0
    · subst h0
      have hn0 : news = [] := List.eq_nil_of_length_eq_zero (by simpa using hnl)
      subst hn0
      refine ⟨.slice none 0 0, [[]], w, hrun _ _ ?_, ⟨none, 0, [], rfl, rfl, Own.nil _ _⟩, ?_⟩
      · simp [Builtin.append_, run_underlying ht, sizeOf, typeInfo, hi1, Builtin.lenOf, Builtin.firstCells, loadCells, loadCellsFrom]
      · exact ⟨fun _ h => by simp at h, by simp [ids], fun _ _ _ => rfl, fun _ h => by simp [ids] at h, Nat.le_refl _, fun _ h => (by cases h), ⟨rfl, rfl, rfl⟩⟩
    · have hr := run_append_nil (P := P) w t oo.type e i z ht hi1 hi2 ⟨bx, ox, none⟩ nx cxx news hnl hcell (by omega) (by omega) (by rw [Nat.zero_add] at hbig; omega)
      refine ⟨.slice (some ⟨w.heap.size, 0, none⟩) (0 + nx) (grownCap w (0 + nx) 0 e), [[(w.heap.size, .cells ([] ++ news ++ (Builtin.zeroCells z.cells (grownCap w (0 + nx) 0 e - (0 + nx))).toList).toArray e (0, 0))]],
        w.drew.alloc (.cells ([] ++ news ++ (Builtin.zeroCells z.cells (grownCap w (0 + nx) 0 e - (0 + nx))).toList).toArray e (0, 0)), hrun _ _ ?_, ⟨_, _, _, rfl, rfl, grownL 0⟩, St.fresh w _ _ _⟩
      rw [hr]
      simp only [Nat.zero_add, List.nil_append, Result.ok.injEq, true_and]
      congr 2
      apply Array.ext'
      simp
  · have hgb : w.heap[b]? = some (.cells l.toArray e (0, 0)) := hst.has (b, .cells l.toArray e (0, 0)) (hH _ (by simp))
    by_cases hroom : len + nx ≤ cap
    · have hfit : len * i.size + news.length ≤ l.toArray.size := by rw [hnl, List.size_toArray, hll, ← Nat.add_mul]; exact Nat.mul_le_mul_right _ hroom
      have hr := run_append_room (P := P) w t oo.type e i ht hi1 b len cap l.toArray hgb ⟨bx, ox, none⟩ nx cxx news hnl hcell (allOne_mem h1) hroom hfit
      refine ⟨.slice (some ⟨b, 0, none⟩) (len + nx) cap, [[(b, .cells (l.take (len * i.size) ++ news ++ l.drop (len * i.size + news.length)).toArray e (0, 0))]], _, hrun _ _ hr, ⟨_, _, _, rfl, rfl, ?_⟩, ?_⟩
      · have hlen : (cs ++ news).length = (len + nx) * i.size := by rw [List.length_append, ho.1, hnl, Nat.add_mul]
        refine ⟨hlen, .inr ⟨b, _, rfl, rfl, hroom, ?_, ?_⟩⟩
        · simp at hfit ⊢
          omega
        · rw [htake, ← hlen]
          exact List.take_left
      · have := St.row w w.drawn b (l.take (len * i.size) ++ news ++ l.drop (len * i.size + news.length)) l.toArray e (0, 0) hgb
        simpa [ids] using this
    · have holds : ∀ j v, cs[j]? = some v → w.cell? ((⟨b, 0, none⟩ : Addr).add j) = some v := by
        intro j v hj
        rw [Addr.add_none', cell_of_row w b (0 + j) _ e (0, 0) hgb]
        rw [← htake, List.getElem?_take] at hj
        split at hj
        · simpa using hj
        · cases hj
      have hr := run_append_grow (P := P) w t oo.type e i z ht hi1 hi2 ⟨b, 0, none⟩ len cap cs ho.1 holds ⟨bx, ox, none⟩ nx cxx news hnl hcell (by omega) (by omega) (growslice_fits (by omega) hbig)
      refine ⟨.slice (some ⟨w.heap.size, 0, none⟩) (len + nx) (grownCap w (len + nx) cap e), [[(w.heap.size, .cells (cs ++ news ++ (Builtin.zeroCells z.cells (grownCap w (len + nx) cap e - (len + nx))).toList).toArray e (0, 0))]],
        w.drew.alloc (.cells (cs ++ news ++ (Builtin.zeroCells z.cells (grownCap w (len + nx) cap e - (len + nx))).toList).toArray e (0, 0)), hrun _ _ ?_, ⟨_, _, _, rfl, rfl, grownL cap⟩, St.fresh w _ _ _⟩
      rw [hr]
      simp only [Result.ok.injEq, true_and]
      congr 2
      apply Array.ext'
      simp
theorem append_nil {e m bytes : Nat} (hi : InfOk P e m bytes) {t ty : TypeId} {s x : Operand} {cs : List Value} {a : Option Addr} {len cap : Nat} {H : HL}
    (ht : P.underlying t = some (.slice e)) (hs : ev? ρ s = some (.slice a len cap)) (ho : Own m e cs a len cap H)
    (hH : ∀ p ∈ H, p ∈ L.flatten) (hx : ev? ρ x = some (.slice none 0 0)) :
    Prim P n R cx (.call ⟨.builtin .append, #[s, x], #[t, t]⟩) ty ρ L [H] (fun v L' => v = .slice a len cap ∧ L' = [H]) := by
  obtain ⟨i, z, hi1, hi2, rfl, rfl, hi5, hi6⟩ := hi
  refine ⟨fun oo ac w hoo hty hf hst => ?_⟩
  refine ⟨_, _, w, ?_, ⟨rfl, rfl⟩, ?_⟩
  · unfold execOp
    rw [hoo]
    have hlc : len ≤ cap := by
      rcases ho.2 with ⟨_, h1, h2, _⟩ | ⟨_, _, _, _, h1, _⟩ <;> omega
    rcases ho.2 with ⟨rfl, rfl, rfl, rfl⟩ | ⟨b, l, rfl, rfl, _, hll, htake⟩
    · simp [resolve, invoke, builtin, hf.ev hs, hf.ev hx, Builtin.append_, run_underlying ht, sizeOf, typeInfo, hi1, Builtin.lenOf, Builtin.firstCells]
    · simp [resolve, invoke, builtin, hf.ev hs, hf.ev hx, Builtin.append_, run_underlying ht, sizeOf, typeInfo, hi1, Builtin.lenOf, Builtin.firstCells, hlc, storeCells]
  · have hmem : ∀ p ∈ [H].flatten, p ∈ L.flatten := by simpa using hH
    refine ⟨fun p hp => hst.has p (hmem p hp), ?_, fun _ _ _ => rfl, fun b hb => .inl hb, Nat.le_refl _, fun _ h => (by cases h), ⟨rfl, rfl, rfl⟩⟩
    rcases ho.2 with ⟨_, _, _, rfl⟩ | ⟨b, l, _, rfl, _⟩ <;> simp [ids]
theorem madeCells_rep (z : Array Value) (j m : Nat) (hz : z.size = m) (v : Value) (h1 : z = #[v]) : (madeCells z j).toList = List.replicate j v := by
  subst h1
  apply List.ext_getElem
  · simp [madeCells]
  · intro i h1 h2
    simp [madeCells, Nat.mod_one]
theorem NewOf.make {e bytes : Nat} {t ty : TypeId} {x y : Operand} {z : Value} {kl kc : IntKind} {len cap : Nat} {il ic : Int}
    (hi : InfOk P e 1 bytes) (hz : ZeroOf P e z) (hz1 : z.oneCell' = true) (ht : P.underlying t = some (.slice e))
    (hx : ev? ρ x = some (.int kl il)) (hy : ev? ρ y = some (.int kc ic)) (hl : il = (len : Int)) (hc : ic = (cap : Int)) (hlc : len ≤ cap) (hb : bytes * cap ≤ 281474976710656) (hb2 : cap ≤ 281474976710656) :
    NewOf P n R cx (.makeSlice t x y) ty ρ L (.cells (List.replicate cap z).toArray e (0, 0)) (fun b => .slice (some ⟨b, 0, none⟩) len cap) := by
  obtain ⟨i, z', hi1, hi2, hi3, rfl, hi5, hi6⟩ := hi
  have hzz : z' = z := by
    have := hz default
    simp [zeroValue, typeInfo, hi1, hi2] at this
    exact this
  subst hzz
  have hzc : z'.cells = #[z'] := by cases z' <;> simp_all [Value.oneCell', Value.cells]
  refine ⟨fun oo a w ho hty hf hs => ⟨w.drawn, ?_⟩⟩
  subst hl hc
  have hr := run_make (P := P) w t e i z' ht hi1 hi2 kl kc len cap (by omega) (by omega) (by have : ((i.bytes * cap : Nat) : Int) ≤ 281474976710656 := by omega
                                                                                             rwa [Int.natCast_mul] at this) (by omega)
  unfold execOp; rw [ho]
  show _ = Result.ok _ (w.alloc _)
  simp only [hf.ev hx, hf.ev hy, Sem.run_bind, hr, Result.andThen_ok, Sem.run_pure, Int.toNat_natCast, hi3, Nat.mul_one]
  have := madeCells_rep z'.cells cap 1 (by rw [hzc]; rfl) z' hzc
  rw [← this]
theorem W.make {all : Array Oper} {d : Nat} {e bytes : Nat} {t ty : TypeId} {x y : Operand} {pos : String} {af : Array Edge} {l : List Oper} {z : Value} {kl kc : IntKind} {len cap : Nat} {il ic : Int}
    (hi : InfOk P e 1 bytes) (hz : ZeroOf P e z) (hz1 : z.oneCell' = true) (ht : P.underlying t = some (.slice e))
    (hx : ev? ρ x = some (.int kl il)) (hy : ev? ρ y = some (.int kc ic)) (hl : il = (len : Int)) (hc : ic = (cap : Int)) (hlc : len ≤ cap) (hb : bytes * cap ≤ 281474976710656) (hb2 : cap ≤ 281474976710656) (hd : d < n)
    (hk : ∀ b, W P n R cx (.ops all l :: k) ((d, .slice (some ⟨b, 0, none⟩) len cap) :: ρ) ([(b, .cells (List.replicate cap z).toArray e (0, 0))] :: L)) :
    W P n R cx (.ops all (⟨some d, .makeSlice t x y, ty, pos, af, none⟩ :: l) :: k) ρ L :=
  W.newOf (NewOf.make hi hz hz1 ht hx hy hl hc hlc hb hb2).go hd hk
theorem OpVal.piece {T : Tab} (hT : TabOk P T) {t e ty : TypeId} {x : Operand} {lo hi mx : Option Operand} {b off len cap m l h c : Nat} {ag : Bool}
    (hx : ev? ρ x = some (.slice (some ⟨b, off, none⟩) len cap)) (ht : look? T.sls t = some e) (hz : look? T.tys e = some (ag, m))
    (hl : match lo with | none => l = 0 | some o => ∃ kk, ev? ρ o = some (.int kk (l : Int)))
    (hh : match hi with | none => h = len ∧ mx = none | some o => ∃ kk, ev? ρ o = some (.int kk (h : Int)))
    (hm : match mx with | none => c = cap | some o => ∃ kk, ev? ρ o = some (.int kk (c : Int)))
    (h1 : l ≤ h) (h2 : h ≤ c) (h3 : c ≤ cap) (hne : l < c ∨ l = 0) :
    OpVal P n R cx (.slice t x lo hi mx) ty ρ L (.slice (some ⟨b, off + l * m, none⟩) (h - l) (c - l)) := by
  refine ⟨fun oo a w ho hty hf hs => ?_⟩
  have hu := hT.sls _ (look?_mem ht)
  have hz' := (hT.tys _ (look?_mem hz)).2
  have bnd : ∀ (o : Operand) (v y : Nat) (cd : BoundsCode), (∃ kk, ev? ρ o = some (.int kk (v : Int))) → v ≤ y → (Instr.sliceBound (a.eval o) y cd).run P w = .ok v w := by
    rintro o v y cd ⟨kk, ho⟩ hv
    simp [Instr.sliceBound, hf.ev ho, asIntOf, hv]
  unfold execOp; rw [ho]
  have hne' : ∀ q : Addr, q = ⟨b, off, none⟩ → (if c = l then some q else some (q.add (l * m))) = some ⟨b, off + l * m, none⟩ := by
    rintro q rfl
    rcases hne with h | h
    · rw [if_neg (by omega), Addr.add_none']
    · subst h
      split <;> simp [Addr.add_none']
  have hne2 := hne' _ rfl
  cases mx with
  | none =>
    simp only at hm
    subst hm
    cases hi with
    | none =>
      simp only at hh
      obtain ⟨rfl, -⟩ := hh
      cases lo with
      | none =>
        simp only at hl
        subst hl
        simp [Instr.sliceAt, Instr.slice, Instr.sliceBounds, underlying, hu, hf.ev hx, hz' w, Addr.add_none']
      | some o =>
        simp only at hl
        simp [Instr.sliceAt, Instr.slice, Instr.sliceBounds, underlying, hu, hf.ev hx, hz' w, bnd o l _ _ hl h1, hne2]
    | some o2 =>
      simp only at hh
      cases lo with
      | none =>
        simp only at hl
        subst hl
        simp [Instr.sliceAt, Instr.slice, Instr.sliceBounds, underlying, hu, hf.ev hx, hz' w, bnd o2 h _ _ hh h2, Addr.add_none']
      | some o =>
        simp only at hl
        simp [Instr.sliceAt, Instr.slice, Instr.sliceBounds, underlying, hu, hf.ev hx, hz' w, bnd o2 h _ _ hh h2, bnd o l _ _ hl h1, hne2]
  | some o3 =>
    simp only at hm
    cases hi with
    | none => simp at hh
    | some o2 =>
      simp only at hh
      cases lo with
      | none =>
        simp only at hl
        subst hl
        simp [Instr.sliceAt, Instr.slice, Instr.sliceBounds, underlying, hu, hf.ev hx, hz' w, bnd o3 c _ _ hm h3, bnd o2 h _ _ hh h2, Addr.add_none']
      | some o =>
        simp only at hl
        simp [Instr.sliceAt, Instr.slice, Instr.sliceBounds, underlying, hu, hf.ev hx, hz' w, bnd o3 c _ _ hm h3, bnd o2 h _ _ hh h2, bnd o l _ _ hl h1, hne2]
theorem OpVal.front {T : Tab} (hT : TabOk P T) {t e ty : TypeId} {x y : Operand} {a : Option Addr} {len cap m h : Nat} {ag : Bool} {kk : IntKind} {i : Int}
    (hx : ev? ρ x = some (.slice a len cap)) (ht : look? T.sls t = some e) (hz : look? T.tys e = some (ag, m)) (hy : ev? ρ y = some (.int kk i)) (hi : i = (h : Int)) (h2 : h ≤ cap) :
    OpVal P n R cx (.slice t x none (some y) none) ty ρ L (.slice a h cap) := by
  refine ⟨fun oo ac w ho hty hf hs => ?_⟩
  have hu := hT.sls _ (look?_mem ht)
  have hz' := (hT.tys _ (look?_mem hz)).2
  subst hi
  unfold execOp; rw [ho]
  have h3 : ∀ a : Option Addr, (if cap = 0 then a else a.map (·.add 0)) = a := by
    intro a; split
    · rfl
    · cases a <;> simp [Addr.add]
  cases a <;> simp [Instr.sliceAt, Instr.slice, Instr.sliceBounds, Instr.sliceBound, asIntOf, underlying, hu, hf.ev hx, hf.ev hy, hz' w, h2, Addr.add]
theorem OpVal.pieceNil {T : Tab} (hT : TabOk P T) {t e ty : TypeId} {x : Operand} {lo hi : Option Operand} {m : Nat} {ag : Bool}
    (hx : ev? ρ x = some (.slice none 0 0)) (ht : look? T.sls t = some e) (hz : look? T.tys e = some (ag, m))
    (hl : match lo with | none => True | some o => ∃ kk, ev? ρ o = some (.int kk 0))
    (hh : match hi with | none => True | some o => ∃ kk, ev? ρ o = some (.int kk 0)) :
    OpVal P n R cx (.slice t x lo hi none) ty ρ L (.slice none 0 0) := by
  refine ⟨fun oo a w ho hty hf hs => ?_⟩
  have hu := hT.sls _ (look?_mem ht)
  have hz' := (hT.tys _ (look?_mem hz)).2
  have bnd : ∀ (o : Operand) (y : Nat) (cd : BoundsCode), (∃ kk, ev? ρ o = some (.int kk 0)) → (Instr.sliceBound (a.eval o) y cd).run P w = .ok 0 w := by
    rintro o y cd ⟨kk, ho⟩
    simp [Instr.sliceBound, hf.ev ho, asIntOf]
  unfold execOp; rw [ho]
  cases hi with
  | none => cases lo with
    | none => simp [Instr.sliceAt, Instr.slice, Instr.sliceBounds, underlying, hu, hf.ev hx, hz' w]
    | some o => simp [Instr.sliceAt, Instr.slice, Instr.sliceBounds, underlying, hu, hf.ev hx, hz' w, bnd o _ _ hl]
  | some o2 => cases lo with
    | none => simp [Instr.sliceAt, Instr.slice, Instr.sliceBounds, underlying, hu, hf.ev hx, hz' w, bnd o2 _ _ hh]
    | some o => simp [Instr.sliceAt, Instr.slice, Instr.sliceBounds, underlying, hu, hf.ev hx, hz' w, bnd o2 _ _ hh, bnd o _ _ hl]
theorem OpVal.min2 {t1 t2 ty : TypeId} {x y : Operand} {kk k2 : IntKind} {i j : Int} (hx : ev? ρ x = some (.int kk i)) (hy : ev? ρ y = some (.int k2 j)) :
    OpVal P n R cx (.call ⟨.builtin .min, #[x, y], #[t1, t2]⟩) ty ρ L (.int kk (if j < i then j else i)) := by
  refine ⟨fun oo a w ho hty hf hs => ?_⟩
  unfold execOp; rw [ho]
  simp [resolve, invoke, builtin, hf.ev hx, hf.ev hy, Builtin.min_, Builtin.min2]
theorem OpVal.max2 {t1 t2 ty : TypeId} {x y : Operand} {kk k2 : IntKind} {i j : Int} (hx : ev? ρ x = some (.int kk i)) (hy : ev? ρ y = some (.int k2 j)) :
    OpVal P n R cx (.call ⟨.builtin .max, #[x, y], #[t1, t2]⟩) ty ρ L (.int kk (if i < j then j else i)) := by
  refine ⟨fun oo a w ho hty hf hs => ?_⟩
  unfold execOp; rw [ho]
  simp [resolve, invoke, builtin, hf.ev hx, hf.ev hy, Builtin.max_, Builtin.max2]
theorem foldl_set (l : List Value) (off : Nat) (l' : List Value) : ∀ (vs : List Value) (j : Nat), splice? l (off + j) vs = some l' →
    ((vs.zipIdx j).foldl (fun cs (x : Value × Nat) => cs.setIfInBounds (off + x.2) x.1) l.toArray) = l'.toArray
  | [], j, h => by
    obtain ⟨_, h2⟩ := splice?_eq l (off + j) [] h
    simp at h2
    simp [h2]
  | v :: vs, j, h => by
    obtain ⟨h1, h2⟩ := splice?_eq l (off + j) (v :: vs) h
    simp only [List.zipIdx_cons, List.foldl_cons]
    have h3 : splice? (l.set (off + j) v) (off + (j + 1)) vs = some l' := by
      have h4 : off + (j + 1) + vs.length ≤ (l.set (off + j) v).length := by simp at h1 ⊢; omega
      have : ∀ (l : List Value) (o : Nat) (vs : List Value), o + vs.length ≤ l.length → splice? l o vs = some (l.take o ++ vs ++ l.drop (o + vs.length)) := by
        intro l
        induction l with
        | nil => intro o vs h; simp at h; obtain ⟨rfl, rfl⟩ := h; rfl
        | cons x l ih =>
          intro o vs h
          cases o with
          | zero =>
            cases vs with
            | nil => simp [splice?]
            | cons u us =>
              have := ih 0 us (by simpa using h)
              simp only [splice?, this]
              simp
          | succ o =>
            have := ih o vs (by simp at h; omega)
            simp only [splice?, this]
            simp [show o + 1 + vs.length = (o + vs.length) + 1 from by omega]
      rw [this _ _ _ h4, h2]
      congr 1
      simp only [List.length_cons]
      have e1 : (l.set (off + j) v).take (off + (j + 1)) = l.take (off + j) ++ [v] := by
        rw [show off + (j + 1) = (off + j) + 1 from by omega, List.take_add_one]
        have hlt : off + j < l.length := by simp at h1; omega
        rw [List.take_set, List.set_eq_of_length_le (by simp; omega)]
        simp [hlt]
      have e2 : (l.set (off + j) v).drop (off + (j + 1) + vs.length) = l.drop (off + j + (vs.length + 1)) := by
        rw [List.drop_set_of_lt (by omega)]
        congr 1
        omega
      rw [e1, e2]
      simp
    have := foldl_set (l.set (off + j) v) off l' vs (j + 1) h3
    simpa using this
def lay? : List Value → List (Nat × List Value) → Option (List Value)
  | l, [] => some l
  | l, (o, vs) :: r => match splice? l o vs with
    | some l' => lay? l' r
    | none => none
def parts? (ρ : Env) : List (Nat × Nat) → List (Nat × Operand) → Option (List (Nat × List Value))
  | _, [] => some []
  | pl, (i, x) :: r => match ev? ρ x with
    | none => none
    | some v => match cells? v with
      | none => none
      | some vs => match pl[i]? with
        | none => none
        | some (o, _) => match parts? ρ pl r with
          | none => none
          | some q => some ((o, vs) :: q)
def Fills (pl : List (Nat × Nat)) (ρ : Env) (ps : List (Nat × Operand)) : Prop := match ps with
  | [] => True
  | (i, x) :: r => (∃ v vs o, ev? ρ x = some v ∧ cells? v = some vs ∧ pl[i]? = some (o, vs.length)) ∧ Fills pl ρ r
theorem fill_lay {place : Nat → Option (Nat × Nat)} {pl : List (Nat × Nat)} (hp : ∀ i o m, pl[i]? = some (o, m) → place i = some (o, m)) {a : Act} (hf : Fits n ρ a) :
    ∀ (ps : List (Nat × Operand)) (zs out : List Value) {q : List (Nat × List Value)}, parts? ρ pl ps = some q → Fills pl ρ ps → lay? zs q = some out →
      Instr.fill place zs.toArray (ps.map fun (i, x) => (i, a.eval x)) = some out.toArray
  | [], zs, out, q, h1, _, h3 => by
    simp only [parts?, Option.some.injEq] at h1
    subst h1
    simp only [lay?, Option.some.injEq] at h3
    subst h3
    rfl
  | (i, x) :: r, zs, out, q, h1, h2, h3 => by
    obtain ⟨⟨v, vs, o, e1, e2, e3⟩, h2'⟩ := h2
    simp only [parts?, e1, e2, e3] at h1
    split at h1
    · cases h1
    · rename_i q' hq
      cases h1
      simp only [lay?] at h3
      split at h3
      · rename_i zs' hz
        have ih := fill_lay hp hf r zs' out hq h2' h3
        have hc := cells?_eq e2
        obtain ⟨hb, -⟩ := splice?_eq _ _ _ hz
        have hfs := foldl_set zs o zs' vs 0 (by simpa using hz)
        simp only [List.map_cons, Instr.fill, hp i o _ e3, hf.ev e1, hc]
        rw [if_neg (by simp; omega)]
        have : (Array.foldl (fun cs (x : Value × Nat) => cs.setIfInBounds (o + x.2) x.1) zs.toArray vs.toArray.zipIdx) = zs'.toArray := by
          rw [← hfs]
          simp
        rw [← ih]
        simp only at this ⊢
        rw [← this]
      · cases h3
theorem OpVal.build {T : Tab} (hT : TabOk P T) {t ty : TypeId} {ps : List (Nat × Operand)} {z : Value} {zs out : List Value} {pl : List (Nat × Nat)} {q : List (Nat × List Value)}
    (hz : look? T.zeros t = some z) (hzc : cells? z = some zs) (hp : look? T.flds t = some pl) (hq : parts? ρ pl ps = some q) (hf : Fills pl ρ ps) (ho : lay? zs q = some out) :
    OpVal P n R cx (.build t ps.toArray) ty ρ L (.agg out.toArray) := by
  refine ⟨fun oo a w hoo hty hfi hs => ?_⟩
  have hz' := hT.zeros _ (look?_mem hz) w
  have hp' := hT.flds _ (look?_mem hp)
  unfold execOp; rw [hoo]
  have hcz := cells?_eq hzc
  rcases hp' with ⟨fs, hu, hm⟩ | ⟨len, el, m, hu, hm, hpl⟩
  · have hfill := fill_lay (place := (pl.toArray[·]?)) (fun i o m h => by simpa using h) hfi ps zs out hq hf ho
    have hm' := hm w
    simp only at hz' hu hm'
    simp only [Instr.build, Sem.run_bind, hz', underlying, run_program, Result.andThen_ok, hu, Sem.run_pure, hm', hcz]
    simp only [List.map_toArray, hfill]
    simp
  · have hfill := fill_lay (place := fun i => some (i * m, m)) (fun i o k h => by
      simp only at hpl
      rw [hpl] at h
      simp only [List.getElem?_map, Option.map_eq_some_iff, Prod.mk.injEq] at h
      obtain ⟨j, hj, rfl, rfl⟩ := h
      have := (List.getElem?_eq_some_iff.1 hj).2
      simp at this
      rw [this]) hfi ps zs out hq hf ho
    have hm' := hm w
    simp only at hz' hu
    simp only [Instr.build, Sem.run_bind, hz', underlying, run_program, Result.andThen_ok, hu, Sem.run_pure, hm', hcz]
    simp only [List.map_toArray, hfill]
    simp
def repL : Nat → List Value → List Value
  | 0, _ => []
  | j + 1, l => l ++ repL j l
theorem repL_eq (zc : List Value) (m : Nat) (hm : zc.length = m) (h0 : 0 < m) : ∀ len : Nat, ((List.range (len * m)).map fun i => zc.toArray[i % m]!) = repL len zc
  | 0 => by simp [repL]
  | j + 1 => by
    have ih := repL_eq zc m hm h0 j
    rw [show (j + 1) * m = m + j * m from by rw [Nat.add_mul]; omega, List.range_add, List.map_append, repL]
    congr 1
    · apply List.ext_getElem
      · simp [hm]
      · intro i h1 h2
        simp at h1
        simp [Nat.mod_eq_of_lt h1, h2]
    · rw [← ih, List.map_map]
      apply List.map_congr_left
      intro i _
      simp
theorem NewOf.newSl {T : Tab} (hT : TabOk P T) {t e ty m bytes len : Nat} {ps : List (Nat × Operand)} {z : Value} {zs zz out : List Value}
    {pl : List (Nat × Nat)} {q : List (Nat × List Value)}
    (ht : look? T.sls t = some e) (hi : look? T.infs e = some (m, bytes)) (hz : look? T.zeros e = some z) (hzc : cells? z = some zs) (hzl : zs.length = m) (hrep : norm? (repL len zs) = some zz)
    (hpl : ∀ i o k, pl[i]? = some (o, k) → o = i * m ∧ k = m) (hq : parts? ρ pl ps = some q) (hf : Fills pl ρ ps) (ho : lay? zz q = some out) (hlen : len * m ≤ 16777216) :
    NewOf P n R cx (.buildSlice t len ps.toArray) ty ρ L (.cells out.toArray e (0, 0)) (fun b => .slice (some ⟨b, 0, none⟩) len len) := by
  refine ⟨fun oo a w hoo hty hfi hs => ⟨w.drawn, ?_⟩⟩
  have hu := hT.sls _ (look?_mem ht)
  obtain ⟨i, z', hi1, hi2, hi3, hi4, hi5, hi6⟩ := hT.infs _ (look?_mem hi)
  have hz' := hT.zeros _ (look?_mem hz) w
  have hcz := cells?_eq hzc
  have hrep' := norm?_eq hrep
  simp only at hu hi1 hi3 hi4 hi5 hi6 hz'
  have hfill := fill_lay (place := fun i => some (i * m, m)) (fun i o k h => by obtain ⟨rfl, rfl⟩ := hpl i o k h; rfl) hfi ps zz out hq hf ho
  unfold execOp; rw [hoo]
  show _ = Result.ok _ (w.alloc _)
  have hsz : (sizeOf e).run P w = .ok m w := by simp [sizeOf, typeInfo, hi1, hi3]
  have hcells : ((Array.range (len * m)).map fun i => zs.toArray[i % zs.toArray.size]!) = zz.toArray := by
    apply Array.ext'
    have := repL_eq zs m hzl hi6 len
    simp only [List.size_toArray, hzl, Array.toList_map, Array.toList_range]
    rw [this, hrep']
  have hno : ¬ (2 ^ 24 < len * m) := by omega
  simp only [Instr.buildSlice, Sem.run_bind, underlying, run_program, Result.andThen_ok, hu, Sem.run_pure, hsz, gt_iff_lt, hno, if_false, List.map_toArray]
  by_cases h0 : len * m = 0
  · have hzz : zz = [] := by
      rw [← hrep']
      have : len = 0 := by
        rcases Nat.mul_eq_zero.1 h0 with h | h
        · exact h
        · omega
      subst this
      rfl
    subst hzz
    rw [if_pos h0]
    have h00 : ∀ zero : Array Value, ((Array.range 0).map fun (i : Nat) => zero[i % zero.size]!) = ([] : List Value).toArray := by intro zero; simp
    simp only [Sem.run_bind, Sem.run_pure, Result.andThen_ok, h0, h00, hfill]
    simp [newRow]
  · rw [if_neg h0]
    simp only [Sem.run_bind, hz', Result.andThen_ok, Sem.run_pure, hcz, hcells, hfill]
    simp [newRow]
theorem W.newSl {T : Tab} (hT : TabOk P T) {all : Array Oper} {d : Nat} {t e ty m bytes len : Nat} {pos : String} {af : Array Edge} {l : List Oper} {ps : List (Nat × Operand)} {z : Value} {zs zz out : List Value}
    {pl : List (Nat × Nat)} {q : List (Nat × List Value)}
    (ht : look? T.sls t = some e) (hi : look? T.infs e = some (m, bytes)) (hz : look? T.zeros e = some z) (hzc : cells? z = some zs) (hzl : zs.length = m) (hrep : norm? (repL len zs) = some zz)
    (hpl : ∀ i o k, pl[i]? = some (o, k) → o = i * m ∧ k = m) (hq : parts? ρ pl ps = some q) (hf : Fills pl ρ ps) (ho : lay? zz q = some out) (hlen : len * m ≤ 16777216) (hd : d < n)
    (hk : ∀ b, W P n R cx (.ops all l :: k) ((d, .slice (some ⟨b, 0, none⟩) len len) :: ρ) ([(b, .cells out.toArray e (0, 0))] :: L)) :
    W P n R cx (.ops all (⟨some d, .buildSlice t len ps.toArray, ty, pos, af, none⟩ :: l) :: k) ρ L :=
  W.newOf (NewOf.newSl hT ht hi hz hzc hzl hrep hpl hq hf ho hlen).go hd hk
theorem take?_of (l : List Value) (m : Nat) (h : m ≤ l.length) : take? l m = some (l.take m) := by
  induction l generalizing m with
  | nil => simp at h; subst h; rfl
  | cons x l ih =>
    cases m with
    | zero => rfl
    | succ m => simp only [take?, ih m (by simpa using h)]; rfl
theorem seg?_of (l : List Value) (o m : Nat) (h : o + m ≤ l.length) : seg? l o m = some ((l.drop o).take m) := by
  induction l generalizing o with
  | nil =>
    simp at h
    obtain ⟨rfl, rfl⟩ := h
    rfl
  | cons x l ih =>
    cases o with
    | zero => simpa [seg?] using take?_of (x :: l) m (by simpa using h)
    | succ o => simpa [seg?] using ih o (by simp at h; omega)
theorem splice?_of (l : List Value) (o : Nat) (vs : List Value) (h : o + vs.length ≤ l.length) : splice? l o vs = some (l.take o ++ vs ++ l.drop (o + vs.length)) := by
  induction l generalizing o vs with
  | nil => simp at h; obtain ⟨rfl, rfl⟩ := h; rfl
  | cons x l ih =>
    cases o with
    | zero =>
      cases vs with
      | nil => simp [splice?]
      | cons u us =>
        have := ih 0 us (by simpa using h)
        simp only [splice?, this]
        simp
    | succ o =>
      have := ih o vs (by simp at h; omega)
      simp only [splice?, this]
      simp [show o + 1 + vs.length = (o + vs.length) + 1 from by omega]
def RoSl (m : Nat) (cs : List Value) (a : Option Addr) (len : Nat) (ro : HL) : Prop :=
  cs.length = len * m ∧ ((len = 0 ∧ ro = []) ∨ ∃ b off l e fr, a = some ⟨b, off, none⟩ ∧ ro = [(b, .cells (List.toArray l) e fr)] ∧ off + len * m ≤ l.length ∧ (l.drop off).take (len * m) = cs)
theorem flatMap_seg {α : Type} (f : α → List Value) (m : Nat) (hf : ∀ x, (f x).length = m) : ∀ (xs : List α) (i : Nat) (hi : i < xs.length), ((xs.flatMap f).drop (i * m)).take m = f xs[i]
  | [], i, hi => by simp at hi
  | x :: xs, 0, _ => by
    simp only [List.flatMap_cons, Nat.zero_mul, List.drop_zero, List.getElem_cons_zero]
    rw [← hf x]
    exact List.take_left
  | x :: xs, i + 1, hi => by
    have ih := flatMap_seg f m hf xs i (by simpa using hi)
    simp only [List.flatMap_cons, List.getElem_cons_succ]
    rw [show (i + 1) * m = (f x).length + i * m from by rw [hf x, Nat.add_mul]; omega, ← List.drop_drop, List.drop_left]
    exact ih
theorem flatMap_len {α : Type} (f : α → List Value) (m : Nat) (hf : ∀ x, (f x).length = m) (xs : List α) : (xs.flatMap f).length = xs.length * m := by
  induction xs with
  | nil => simp
  | cons x xs ih => simp [List.flatMap_cons, hf, ih, Nat.add_mul]; omega
theorem RoSl.elem {α : Type} {f : α → List Value} {m : Nat} (hf : ∀ x, (f x).length = m) {xs : List α} {l : List Value} {off : Nat} (hl : off + xs.length * m ≤ l.length) (h : (l.drop off).take (xs.length * m) = xs.flatMap f)
    {i : Nat} (hi : i < xs.length) : seg? l (off + i * m) m = some (f xs[i]) := by
  have h1 : i * m + m ≤ xs.length * m := by
    rw [← Nat.succ_mul]; exact Nat.mul_le_mul_right m hi
  rw [seg?_of _ _ _ (by omega)]
  congr 1
  have h2 := flatMap_seg f m hf xs i hi
  rw [← h, ← List.drop_drop] at *
  rw [← h2, List.drop_take, List.take_take]
  congr 1
  omega
def apl (m : Nat) : Nat → Nat → List (Nat × Nat)
  | _, 0 => []
  | i, c + 1 => (i * m, m) :: apl m (i + 1) c
theorem apl_ok (m : Nat) : ∀ (c i0 i o k : Nat), (apl m i0 c)[i]? = some (o, k) → o = (i0 + i) * m ∧ k = m
  | 0, _, _, _, _, h => by simp [apl] at h
  | c + 1, i0, 0, o, k, h => by simp [apl] at h; obtain ⟨rfl, rfl⟩ := h; simp
  | c + 1, i0, i + 1, o, k, h => by
    have := apl_ok m c (i0 + 1) i o k (by simpa [apl] using h)
    rw [show i0 + (i + 1) = i0 + 1 + i from by omega]
    exact this
theorem NewOf.slit {T : Tab} (hT : TabOk P T) {t e ty m bytes len : Nat} {ps : List (Nat × Operand)} {z : Value} {zs zz out : List Value}
    {q : List (Nat × List Value)}
    (ht : look? T.sls t = some e) (hi : look? T.infs e = some (m, bytes)) (hz : look? T.zeros e = some z) (hzc : cells? z = some zs) (hzl : zs.length = m) (hrep : norm? (repL len zs) = some zz)
    (hq : parts? ρ (apl m 0 len) ps = some q) (hf : Fills (apl m 0 len) ρ ps) (ho : lay? zz q = some out) (hlen : len * m ≤ 16777216) :
    NewOf P n R cx (.buildSlice t len ps.toArray) ty ρ L (.cells out.toArray e (0, 0)) (fun b => .slice (some ⟨b, 0, none⟩) len len) :=
  NewOf.newSl hT ht hi hz hzc hzl hrep (fun i o k h => by have := apl_ok m len 0 i o k h; simpa using this) hq hf ho hlen
theorem W.slit {T : Tab} (hT : TabOk P T) {all : Array Oper} {d : Nat} {t e ty m bytes len : Nat} {pos : String} {af : Array Edge} {l : List Oper} {ps : List (Nat × Operand)} {z : Value} {zs zz out : List Value}
    {q : List (Nat × List Value)}
    (ht : look? T.sls t = some e) (hi : look? T.infs e = some (m, bytes)) (hz : look? T.zeros e = some z) (hzc : cells? z = some zs) (hzl : zs.length = m) (hrep : norm? (repL len zs) = some zz)
    (hq : parts? ρ (apl m 0 len) ps = some q) (hf : Fills (apl m 0 len) ρ ps) (ho : lay? zz q = some out) (hlen : len * m ≤ 16777216) (hd : d < n)
    (hk : ∀ b, W P n R cx (.ops all l :: k) ((d, .slice (some ⟨b, 0, none⟩) len len) :: ρ) ([(b, .cells out.toArray e (0, 0))] :: L)) :
    W P n R cx (.ops all (⟨some d, .buildSlice t len ps.toArray, ty, pos, af, none⟩ :: l) :: k) ρ L :=
  W.newSl hT ht hi hz hzc hzl hrep (fun i o k h => by have := apl_ok m len 0 i o k h; simpa using this) hq hf ho hlen hd hk
end
end Go.Sl
namespace Go.Proofs.YtfajcpnbhnddbaaGreat
open Go Go.Sl
set_option maxRecDepth 20000
theorem fo_32_0 : FieldAt Tryz.prog (32, 0, 0) := by intro b o w; simp [Instr.fieldAt, Instr.sureAddr, fieldPlace, Go.Sl.Addr.add_none']
theorem fo_32_1 : FieldAt Tryz.prog (32, 1, 1) := by intro b o w; simp [Instr.fieldAt, Instr.sureAddr, fieldPlace, Go.Sl.Addr.add_none']
theorem fo_36_0 : FieldAt Tryz.prog (36, 0, 0) := by intro b o w; simp [Instr.fieldAt, Instr.sureAddr, fieldPlace, Go.Sl.Addr.add_none']
theorem fo_36_1 : FieldAt Tryz.prog (36, 1, 2) := by intro b o w; simp [Instr.fieldAt, Instr.sureAddr, fieldPlace, Go.Sl.Addr.add_none']
theorem fo_36_2 : FieldAt Tryz.prog (36, 2, 3) := by intro b o w; simp [Instr.fieldAt, Instr.sureAddr, fieldPlace, Go.Sl.Addr.add_none']
theorem fo_36_3 : FieldAt Tryz.prog (36, 3, 4) := by intro b o w; simp [Instr.fieldAt, Instr.sureAddr, fieldPlace, Go.Sl.Addr.add_none']
theorem fo_36_4 : FieldAt Tryz.prog (36, 4, 5) := by intro b o w; simp [Instr.fieldAt, Instr.sureAddr, fieldPlace, Go.Sl.Addr.add_none']
theorem fo_36_5 : FieldAt Tryz.prog (36, 5, 6) := by intro b o w; simp [Instr.fieldAt, Instr.sureAddr, fieldPlace, Go.Sl.Addr.add_none']
theorem fo_40_0 : FieldAt Tryz.prog (40, 0, 0) := by intro b o w; simp [Instr.fieldAt, Instr.sureAddr, fieldPlace, Go.Sl.Addr.add_none']
theorem fo_40_1 : FieldAt Tryz.prog (40, 1, 1) := by intro b o w; simp [Instr.fieldAt, Instr.sureAddr, fieldPlace, Go.Sl.Addr.add_none']
theorem fo_40_2 : FieldAt Tryz.prog (40, 2, 2) := by intro b o w; simp [Instr.fieldAt, Instr.sureAddr, fieldPlace, Go.Sl.Addr.add_none']
theorem fo_40_3 : FieldAt Tryz.prog (40, 3, 3) := by intro b o w; simp [Instr.fieldAt, Instr.sureAddr, fieldPlace, Go.Sl.Addr.add_none']
theorem fo_40_4 : FieldAt Tryz.prog (40, 4, 4) := by intro b o w; simp [Instr.fieldAt, Instr.sureAddr, fieldPlace, Go.Sl.Addr.add_none']
theorem fo_40_5 : FieldAt Tryz.prog (40, 5, 5) := by intro b o w; simp [Instr.fieldAt, Instr.sureAddr, fieldPlace, Go.Sl.Addr.add_none']
theorem fo_43_0 : FieldAt Tryz.prog (43, 0, 0) := by intro b o w; simp [Instr.fieldAt, Instr.sureAddr, fieldPlace, Go.Sl.Addr.add_none']
theorem fo_43_1 : FieldAt Tryz.prog (43, 1, 7) := by intro b o w; simp [Instr.fieldAt, Instr.sureAddr, fieldPlace, Go.Sl.Addr.add_none']
theorem fo_43_2 : FieldAt Tryz.prog (43, 2, 8) := by intro b o w; simp [Instr.fieldAt, Instr.sureAddr, fieldPlace, Go.Sl.Addr.add_none']
theorem fo_43_3 : FieldAt Tryz.prog (43, 3, 9) := by intro b o w; simp [Instr.fieldAt, Instr.sureAddr, fieldPlace, Go.Sl.Addr.add_none']
theorem fo_43_4 : FieldAt Tryz.prog (43, 4, 10) := by intro b o w; simp [Instr.fieldAt, Instr.sureAddr, fieldPlace, Go.Sl.Addr.add_none']
theorem fo_43_5 : FieldAt Tryz.prog (43, 5, 11) := by intro b o w; simp [Instr.fieldAt, Instr.sureAddr, fieldPlace, Go.Sl.Addr.add_none']
theorem fo_43_6 : FieldAt Tryz.prog (43, 6, 17) := by intro b o w; simp [Instr.fieldAt, Instr.sureAddr, fieldPlace, Go.Sl.Addr.add_none']
theorem fo_45_0 : FieldAt Tryz.prog (45, 0, 0) := by intro b o w; simp [Instr.fieldAt, Instr.sureAddr, fieldPlace, Go.Sl.Addr.add_none']
theorem fo_45_1 : FieldAt Tryz.prog (45, 1, 1) := by intro b o w; simp [Instr.fieldAt, Instr.sureAddr, fieldPlace, Go.Sl.Addr.add_none']
theorem fo_45_2 : FieldAt Tryz.prog (45, 2, 2) := by intro b o w; simp [Instr.fieldAt, Instr.sureAddr, fieldPlace, Go.Sl.Addr.add_none']
theorem fo_45_3 : FieldAt Tryz.prog (45, 3, 20) := by intro b o w; simp [Instr.fieldAt, Instr.sureAddr, fieldPlace, Go.Sl.Addr.add_none']
theorem fo_48_0 : FieldAt Tryz.prog (48, 0, 0) := by intro b o w; simp [Instr.fieldAt, Instr.sureAddr, fieldPlace, Go.Sl.Addr.add_none']
theorem fo_48_1 : FieldAt Tryz.prog (48, 1, 1) := by intro b o w; simp [Instr.fieldAt, Instr.sureAddr, fieldPlace, Go.Sl.Addr.add_none']
theorem fo_48_2 : FieldAt Tryz.prog (48, 2, 2) := by intro b o w; simp [Instr.fieldAt, Instr.sureAddr, fieldPlace, Go.Sl.Addr.add_none']
theorem fo_48_3 : FieldAt Tryz.prog (48, 3, 3) := by intro b o w; simp [Instr.fieldAt, Instr.sureAddr, fieldPlace, Go.Sl.Addr.add_none']
theorem fo_48_4 : FieldAt Tryz.prog (48, 4, 4) := by intro b o w; simp [Instr.fieldAt, Instr.sureAddr, fieldPlace, Go.Sl.Addr.add_none']
theorem fo_55_0 : FieldAt Tryz.prog (55, 0, 0) := by intro b o w; simp [Instr.fieldAt, Instr.sureAddr, fieldPlace, Go.Sl.Addr.add_none']
theorem fo_55_1 : FieldAt Tryz.prog (55, 1, 1) := by intro b o w; simp [Instr.fieldAt, Instr.sureAddr, fieldPlace, Go.Sl.Addr.add_none']
theorem fo_55_2 : FieldAt Tryz.prog (55, 2, 2) := by intro b o w; simp [Instr.fieldAt, Instr.sureAddr, fieldPlace, Go.Sl.Addr.add_none']
theorem fo_55_3 : FieldAt Tryz.prog (55, 3, 3) := by intro b o w; simp [Instr.fieldAt, Instr.sureAddr, fieldPlace, Go.Sl.Addr.add_none']
theorem fo_55_4 : FieldAt Tryz.prog (55, 4, 4) := by intro b o w; simp [Instr.fieldAt, Instr.sureAddr, fieldPlace, Go.Sl.Addr.add_none']
theorem fo_55_5 : FieldAt Tryz.prog (55, 5, 5) := by intro b o w; simp [Instr.fieldAt, Instr.sureAddr, fieldPlace, Go.Sl.Addr.add_none']
theorem fo_55_6 : FieldAt Tryz.prog (55, 6, 11) := by intro b o w; simp [Instr.fieldAt, Instr.sureAddr, fieldPlace, Go.Sl.Addr.add_none']
theorem fo_60_0 : FieldAt Tryz.prog (60, 0, 0) := by intro b o w; simp [Instr.fieldAt, Instr.sureAddr, fieldPlace, Go.Sl.Addr.add_none']
theorem fo_60_1 : FieldAt Tryz.prog (60, 1, 1) := by intro b o w; simp [Instr.fieldAt, Instr.sureAddr, fieldPlace, Go.Sl.Addr.add_none']
theorem fo_60_2 : FieldAt Tryz.prog (60, 2, 2) := by intro b o w; simp [Instr.fieldAt, Instr.sureAddr, fieldPlace, Go.Sl.Addr.add_none']
theorem fo_60_3 : FieldAt Tryz.prog (60, 3, 3) := by intro b o w; simp [Instr.fieldAt, Instr.sureAddr, fieldPlace, Go.Sl.Addr.add_none']
theorem fo_60_4 : FieldAt Tryz.prog (60, 4, 4) := by intro b o w; simp [Instr.fieldAt, Instr.sureAddr, fieldPlace, Go.Sl.Addr.add_none']
theorem fo_60_5 : FieldAt Tryz.prog (60, 5, 5) := by intro b o w; simp [Instr.fieldAt, Instr.sureAddr, fieldPlace, Go.Sl.Addr.add_none']
theorem fo_65_0 : FieldAt Tryz.prog (65, 0, 0) := by intro b o w; simp [Instr.fieldAt, Instr.sureAddr, fieldPlace, Go.Sl.Addr.add_none']
theorem fo_65_1 : FieldAt Tryz.prog (65, 1, 1) := by intro b o w; simp [Instr.fieldAt, Instr.sureAddr, fieldPlace, Go.Sl.Addr.add_none']
theorem fo_65_2 : FieldAt Tryz.prog (65, 2, 6) := by intro b o w; simp [Instr.fieldAt, Instr.sureAddr, fieldPlace, Go.Sl.Addr.add_none']
theorem fo_80_0 : FieldAt Tryz.prog (80, 0, 0) := by intro b o w; simp [Instr.fieldAt, Instr.sureAddr, fieldPlace, Go.Sl.Addr.add_none']
theorem fo_80_1 : FieldAt Tryz.prog (80, 1, 1) := by intro b o w; simp [Instr.fieldAt, Instr.sureAddr, fieldPlace, Go.Sl.Addr.add_none']
theorem fo_87_0 : FieldAt Tryz.prog (87, 0, 0) := by intro b o w; simp [Instr.fieldAt, Instr.sureAddr, fieldPlace, Go.Sl.Addr.add_none']
theorem fo_87_1 : FieldAt Tryz.prog (87, 1, 1) := by intro b o w; simp [Instr.fieldAt, Instr.sureAddr, fieldPlace, Go.Sl.Addr.add_none']
theorem fo_87_2 : FieldAt Tryz.prog (87, 2, 2) := by intro b o w; simp [Instr.fieldAt, Instr.sureAddr, fieldPlace, Go.Sl.Addr.add_none']
theorem fo_87_3 : FieldAt Tryz.prog (87, 3, 3) := by intro b o w; simp [Instr.fieldAt, Instr.sureAddr, fieldPlace, Go.Sl.Addr.add_none']
theorem fo_87_4 : FieldAt Tryz.prog (87, 4, 4) := by intro b o w; simp [Instr.fieldAt, Instr.sureAddr, fieldPlace, Go.Sl.Addr.add_none']
theorem fo_87_5 : FieldAt Tryz.prog (87, 5, 5) := by intro b o w; simp [Instr.fieldAt, Instr.sureAddr, fieldPlace, Go.Sl.Addr.add_none']
theorem fo_90_0 : FieldAt Tryz.prog (90, 0, 0) := by intro b o w; simp [Instr.fieldAt, Instr.sureAddr, fieldPlace, Go.Sl.Addr.add_none']
theorem fo_90_1 : FieldAt Tryz.prog (90, 1, 1) := by intro b o w; simp [Instr.fieldAt, Instr.sureAddr, fieldPlace, Go.Sl.Addr.add_none']
theorem fo_90_2 : FieldAt Tryz.prog (90, 2, 12) := by intro b o w; simp [Instr.fieldAt, Instr.sureAddr, fieldPlace, Go.Sl.Addr.add_none']
theorem fo_93_0 : FieldAt Tryz.prog (93, 0, 0) := by intro b o w; simp [Instr.fieldAt, Instr.sureAddr, fieldPlace, Go.Sl.Addr.add_none']
theorem fo_93_1 : FieldAt Tryz.prog (93, 1, 1) := by intro b o w; simp [Instr.fieldAt, Instr.sureAddr, fieldPlace, Go.Sl.Addr.add_none']
theorem fo_93_2 : FieldAt Tryz.prog (93, 2, 2) := by intro b o w; simp [Instr.fieldAt, Instr.sureAddr, fieldPlace, Go.Sl.Addr.add_none']
theorem fo_99_0 : FieldAt Tryz.prog (99, 0, 0) := by intro b o w; simp [Instr.fieldAt, Instr.sureAddr, fieldPlace, Go.Sl.Addr.add_none']
theorem fo_99_1 : FieldAt Tryz.prog (99, 1, 1) := by intro b o w; simp [Instr.fieldAt, Instr.sureAddr, fieldPlace, Go.Sl.Addr.add_none']
theorem fo_99_2 : FieldAt Tryz.prog (99, 2, 2) := by intro b o w; simp [Instr.fieldAt, Instr.sureAddr, fieldPlace, Go.Sl.Addr.add_none']
theorem fo_105_0 : FieldAt Tryz.prog (105, 0, 0) := by intro b o w; simp [Instr.fieldAt, Instr.sureAddr, fieldPlace, Go.Sl.Addr.add_none']
theorem fo_105_1 : FieldAt Tryz.prog (105, 1, 1) := by intro b o w; simp [Instr.fieldAt, Instr.sureAddr, fieldPlace, Go.Sl.Addr.add_none']
theorem fo_105_2 : FieldAt Tryz.prog (105, 2, 2) := by intro b o w; simp [Instr.fieldAt, Instr.sureAddr, fieldPlace, Go.Sl.Addr.add_none']
theorem fo_107_0 : FieldAt Tryz.prog (107, 0, 0) := by intro b o w; simp [Instr.fieldAt, Instr.sureAddr, fieldPlace, Go.Sl.Addr.add_none']
theorem fo_107_1 : FieldAt Tryz.prog (107, 1, 1) := by intro b o w; simp [Instr.fieldAt, Instr.sureAddr, fieldPlace, Go.Sl.Addr.add_none']
theorem fo_107_2 : FieldAt Tryz.prog (107, 2, 2) := by intro b o w; simp [Instr.fieldAt, Instr.sureAddr, fieldPlace, Go.Sl.Addr.add_none']
theorem fo_107_3 : FieldAt Tryz.prog (107, 3, 3) := by intro b o w; simp [Instr.fieldAt, Instr.sureAddr, fieldPlace, Go.Sl.Addr.add_none']
theorem fo_110_0 : FieldAt Tryz.prog (110, 0, 0) := by intro b o w; simp [Instr.fieldAt, Instr.sureAddr, fieldPlace, Go.Sl.Addr.add_none']
theorem fo_110_1 : FieldAt Tryz.prog (110, 1, 4) := by intro b o w; simp [Instr.fieldAt, Instr.sureAddr, fieldPlace, Go.Sl.Addr.add_none']
theorem fo_110_2 : FieldAt Tryz.prog (110, 2, 5) := by intro b o w; simp [Instr.fieldAt, Instr.sureAddr, fieldPlace, Go.Sl.Addr.add_none']
theorem fo_123_0 : FieldAt Tryz.prog (123, 0, 0) := by intro b o w; simp [Instr.fieldAt, Instr.sureAddr, fieldPlace, Go.Sl.Addr.add_none']
theorem fo_123_1 : FieldAt Tryz.prog (123, 1, 1) := by intro b o w; simp [Instr.fieldAt, Instr.sureAddr, fieldPlace, Go.Sl.Addr.add_none']
theorem fo_123_2 : FieldAt Tryz.prog (123, 2, 2) := by intro b o w; simp [Instr.fieldAt, Instr.sureAddr, fieldPlace, Go.Sl.Addr.add_none']
theorem fo_141_0 : FieldAt Tryz.prog (141, 0, 0) := by intro b o w; simp [Instr.fieldAt, Instr.sureAddr, fieldPlace, Go.Sl.Addr.add_none']
theorem fo_141_1 : FieldAt Tryz.prog (141, 1, 1) := by intro b o w; simp [Instr.fieldAt, Instr.sureAddr, fieldPlace, Go.Sl.Addr.add_none']
theorem fo_141_2 : FieldAt Tryz.prog (141, 2, 2) := by intro b o w; simp [Instr.fieldAt, Instr.sureAddr, fieldPlace, Go.Sl.Addr.add_none']
theorem fo_141_3 : FieldAt Tryz.prog (141, 3, 3) := by intro b o w; simp [Instr.fieldAt, Instr.sureAddr, fieldPlace, Go.Sl.Addr.add_none']
theorem fo_141_4 : FieldAt Tryz.prog (141, 4, 4) := by intro b o w; simp [Instr.fieldAt, Instr.sureAddr, fieldPlace, Go.Sl.Addr.add_none']
theorem fo_141_5 : FieldAt Tryz.prog (141, 5, 5) := by intro b o w; simp [Instr.fieldAt, Instr.sureAddr, fieldPlace, Go.Sl.Addr.add_none']
theorem fo_144_5 : FieldAt Tryz.prog (144, 5, 5) := by intro b o w; simp [Instr.fieldAt, Instr.sureAddr, fieldPlace, Go.Sl.Addr.add_none']
theorem fo_147_0 : FieldAt Tryz.prog (147, 0, 0) := by intro b o w; simp [Instr.fieldAt, Instr.sureAddr, fieldPlace, Go.Sl.Addr.add_none']
theorem fo_147_1 : FieldAt Tryz.prog (147, 1, 1) := by intro b o w; simp [Instr.fieldAt, Instr.sureAddr, fieldPlace, Go.Sl.Addr.add_none']
theorem fo_150_0 : FieldAt Tryz.prog (150, 0, 0) := by intro b o w; simp [Instr.fieldAt, Instr.sureAddr, fieldPlace, Go.Sl.Addr.add_none']
theorem fo_150_1 : FieldAt Tryz.prog (150, 1, 1) := by intro b o w; simp [Instr.fieldAt, Instr.sureAddr, fieldPlace, Go.Sl.Addr.add_none']
theorem fo_150_2 : FieldAt Tryz.prog (150, 2, 2) := by intro b o w; simp [Instr.fieldAt, Instr.sureAddr, fieldPlace, Go.Sl.Addr.add_none']
theorem fo_150_3 : FieldAt Tryz.prog (150, 3, 3) := by intro b o w; simp [Instr.fieldAt, Instr.sureAddr, fieldPlace, Go.Sl.Addr.add_none']
theorem fo_150_4 : FieldAt Tryz.prog (150, 4, 4) := by intro b o w; simp [Instr.fieldAt, Instr.sureAddr, fieldPlace, Go.Sl.Addr.add_none']
theorem fo_214_0 : FieldAt Tryz.prog (214, 0, 0) := by intro b o w; simp [Instr.fieldAt, Instr.sureAddr, fieldPlace, Go.Sl.Addr.add_none']
theorem fo_214_1 : FieldAt Tryz.prog (214, 1, 1) := by intro b o w; simp [Instr.fieldAt, Instr.sureAddr, fieldPlace, Go.Sl.Addr.add_none']
theorem fo_214_2 : FieldAt Tryz.prog (214, 2, 2) := by intro b o w; simp [Instr.fieldAt, Instr.sureAddr, fieldPlace, Go.Sl.Addr.add_none']
theorem fo_214_3 : FieldAt Tryz.prog (214, 3, 3) := by intro b o w; simp [Instr.fieldAt, Instr.sureAddr, fieldPlace, Go.Sl.Addr.add_none']
theorem fo_217_0 : FieldAt Tryz.prog (217, 0, 0) := by intro b o w; simp [Instr.fieldAt, Instr.sureAddr, fieldPlace, Go.Sl.Addr.add_none']
theorem fo_217_2 : FieldAt Tryz.prog (217, 2, 2) := by intro b o w; simp [Instr.fieldAt, Instr.sureAddr, fieldPlace, Go.Sl.Addr.add_none']
theorem fo_217_3 : FieldAt Tryz.prog (217, 3, 3) := by intro b o w; simp [Instr.fieldAt, Instr.sureAddr, fieldPlace, Go.Sl.Addr.add_none']
theorem ty_1 : IsAgg Tryz.prog 1 false ∧ SizeOf Tryz.prog 1 1 := ⟨Tryz.isAgg1, Tryz.sizeOf1⟩
theorem ty_2 : IsAgg Tryz.prog 2 false ∧ SizeOf Tryz.prog 2 1 := ⟨Tryz.isAgg2, Tryz.sizeOf2⟩
theorem ty_3 : IsAgg Tryz.prog 3 false ∧ SizeOf Tryz.prog 3 1 := ⟨Tryz.isAgg3, Tryz.sizeOf3⟩
theorem ty_4 : IsAgg Tryz.prog 4 false ∧ SizeOf Tryz.prog 4 1 := ⟨Tryz.isAgg4, Tryz.sizeOf4⟩
theorem ty_5 : IsAgg Tryz.prog 5 false ∧ SizeOf Tryz.prog 5 1 := ⟨Tryz.isAgg5, Tryz.sizeOf5⟩
theorem ty_9 : IsAgg Tryz.prog 9 false ∧ SizeOf Tryz.prog 9 1 := ⟨Tryz.isAgg9, Tryz.sizeOf9⟩
theorem ty_12 : IsAgg Tryz.prog 12 false ∧ SizeOf Tryz.prog 12 1 := ⟨Tryz.isAgg12, Tryz.sizeOf12⟩
theorem ty_13 : IsAgg Tryz.prog 13 true ∧ SizeOf Tryz.prog 13 2 := ⟨Tryz.isAgg13, Tryz.sizeOf13⟩
theorem ty_20 : IsAgg Tryz.prog 20 false ∧ SizeOf Tryz.prog 20 1 := ⟨Tryz.isAgg20, Tryz.sizeOf20⟩
theorem ty_21 : IsAgg Tryz.prog 21 false ∧ SizeOf Tryz.prog 21 1 := ⟨Tryz.isAgg21, Tryz.sizeOf21⟩
theorem ty_22 : IsAgg Tryz.prog 22 false ∧ SizeOf Tryz.prog 22 1 := ⟨Tryz.isAgg22, Tryz.sizeOf22⟩
theorem ty_23 : IsAgg Tryz.prog 23 false ∧ SizeOf Tryz.prog 23 1 := ⟨Tryz.isAgg23, Tryz.sizeOf23⟩
theorem ty_24 : IsAgg Tryz.prog 24 false ∧ SizeOf Tryz.prog 24 1 := ⟨Tryz.isAgg24, Tryz.sizeOf24⟩
theorem ty_25 : IsAgg Tryz.prog 25 false ∧ SizeOf Tryz.prog 25 1 := ⟨Tryz.isAgg25, Tryz.sizeOf25⟩
theorem ty_26 : IsAgg Tryz.prog 26 false ∧ SizeOf Tryz.prog 26 1 := ⟨Tryz.isAgg26, Tryz.sizeOf26⟩
theorem ty_28 : IsAgg Tryz.prog 28 false ∧ SizeOf Tryz.prog 28 1 := ⟨Tryz.isAgg28, Tryz.sizeOf28⟩
theorem ty_29 : IsAgg Tryz.prog 29 false ∧ SizeOf Tryz.prog 29 1 := ⟨Tryz.isAgg29, Tryz.sizeOf29⟩
theorem ty_30 : IsAgg Tryz.prog 30 false ∧ SizeOf Tryz.prog 30 1 := ⟨Tryz.isAgg30, Tryz.sizeOf30⟩
theorem ty_31 : IsAgg Tryz.prog 31 true ∧ SizeOf Tryz.prog 31 2 := ⟨Tryz.isAgg31, Tryz.sizeOf31⟩
theorem ty_32 : IsAgg Tryz.prog 32 true ∧ SizeOf Tryz.prog 32 2 := ⟨Tryz.isAgg32, Tryz.sizeOf32⟩
theorem ty_33 : IsAgg Tryz.prog 33 false ∧ SizeOf Tryz.prog 33 1 := ⟨Tryz.isAgg33, Tryz.sizeOf33⟩
theorem ty_34 : IsAgg Tryz.prog 34 false ∧ SizeOf Tryz.prog 34 1 := ⟨Tryz.isAgg34, Tryz.sizeOf34⟩
theorem ty_35 : IsAgg Tryz.prog 35 true ∧ SizeOf Tryz.prog 35 7 := ⟨Tryz.isAgg35, Tryz.sizeOf35⟩
theorem ty_36 : IsAgg Tryz.prog 36 true ∧ SizeOf Tryz.prog 36 7 := ⟨Tryz.isAgg36, Tryz.sizeOf36⟩
theorem ty_37 : IsAgg Tryz.prog 37 false ∧ SizeOf Tryz.prog 37 1 := ⟨Tryz.isAgg37, Tryz.sizeOf37⟩
theorem ty_38 : IsAgg Tryz.prog 38 false ∧ SizeOf Tryz.prog 38 1 := ⟨Tryz.isAgg38, Tryz.sizeOf38⟩
theorem ty_39 : IsAgg Tryz.prog 39 true ∧ SizeOf Tryz.prog 39 6 := ⟨Tryz.isAgg39, Tryz.sizeOf39⟩
theorem ty_40 : IsAgg Tryz.prog 40 true ∧ SizeOf Tryz.prog 40 6 := ⟨Tryz.isAgg40, Tryz.sizeOf40⟩
theorem ty_41 : IsAgg Tryz.prog 41 false ∧ SizeOf Tryz.prog 41 1 := ⟨Tryz.isAgg41, Tryz.sizeOf41⟩
theorem ty_42 : IsAgg Tryz.prog 42 true ∧ SizeOf Tryz.prog 42 18 := ⟨Tryz.isAgg42, Tryz.sizeOf42⟩
theorem ty_43 : IsAgg Tryz.prog 43 true ∧ SizeOf Tryz.prog 43 18 := ⟨Tryz.isAgg43, Tryz.sizeOf43⟩
theorem ty_44 : IsAgg Tryz.prog 44 true ∧ SizeOf Tryz.prog 44 21 := ⟨Tryz.isAgg44, Tryz.sizeOf44⟩
theorem ty_45 : IsAgg Tryz.prog 45 true ∧ SizeOf Tryz.prog 45 21 := ⟨Tryz.isAgg45, Tryz.sizeOf45⟩
theorem ty_46 : IsAgg Tryz.prog 46 false ∧ SizeOf Tryz.prog 46 1 := ⟨Tryz.isAgg46, Tryz.sizeOf46⟩
theorem ty_47 : IsAgg Tryz.prog 47 true ∧ SizeOf Tryz.prog 47 5 := ⟨Tryz.isAgg47, Tryz.sizeOf47⟩
theorem ty_48 : IsAgg Tryz.prog 48 true ∧ SizeOf Tryz.prog 48 5 := ⟨Tryz.isAgg48, Tryz.sizeOf48⟩
theorem ty_49 : IsAgg Tryz.prog 49 false ∧ SizeOf Tryz.prog 49 1 := ⟨Tryz.isAgg49, Tryz.sizeOf49⟩
theorem ty_50 : IsAgg Tryz.prog 50 false ∧ SizeOf Tryz.prog 50 1 := ⟨Tryz.isAgg50, Tryz.sizeOf50⟩
theorem ty_51 : IsAgg Tryz.prog 51 false ∧ SizeOf Tryz.prog 51 1 := ⟨Tryz.isAgg51, Tryz.sizeOf51⟩
theorem ty_52 : IsAgg Tryz.prog 52 false ∧ SizeOf Tryz.prog 52 1 := ⟨Tryz.isAgg52, Tryz.sizeOf52⟩
theorem ty_53 : IsAgg Tryz.prog 53 false ∧ SizeOf Tryz.prog 53 1 := ⟨Tryz.isAgg53, Tryz.sizeOf53⟩
theorem ty_54 : IsAgg Tryz.prog 54 true ∧ SizeOf Tryz.prog 54 12 := ⟨Tryz.isAgg54, Tryz.sizeOf54⟩
theorem ty_55 : IsAgg Tryz.prog 55 true ∧ SizeOf Tryz.prog 55 12 := ⟨Tryz.isAgg55, Tryz.sizeOf55⟩
theorem ty_56 : IsAgg Tryz.prog 56 false ∧ SizeOf Tryz.prog 56 1 := ⟨Tryz.isAgg56, Tryz.sizeOf56⟩
theorem ty_57 : IsAgg Tryz.prog 57 false ∧ SizeOf Tryz.prog 57 1 := ⟨Tryz.isAgg57, Tryz.sizeOf57⟩
theorem ty_58 : IsAgg Tryz.prog 58 false ∧ SizeOf Tryz.prog 58 1 := ⟨Tryz.isAgg58, Tryz.sizeOf58⟩
theorem ty_59 : IsAgg Tryz.prog 59 true ∧ SizeOf Tryz.prog 59 11 := ⟨Tryz.isAgg59, Tryz.sizeOf59⟩
theorem ty_60 : IsAgg Tryz.prog 60 true ∧ SizeOf Tryz.prog 60 11 := ⟨Tryz.isAgg60, Tryz.sizeOf60⟩
theorem ty_61 : IsAgg Tryz.prog 61 false ∧ SizeOf Tryz.prog 61 1 := ⟨Tryz.isAgg61, Tryz.sizeOf61⟩
theorem ty_62 : IsAgg Tryz.prog 62 false ∧ SizeOf Tryz.prog 62 1 := ⟨Tryz.isAgg62, Tryz.sizeOf62⟩
theorem ty_63 : IsAgg Tryz.prog 63 false ∧ SizeOf Tryz.prog 63 1 := ⟨Tryz.isAgg63, Tryz.sizeOf63⟩
theorem ty_64 : IsAgg Tryz.prog 64 true ∧ SizeOf Tryz.prog 64 7 := ⟨Tryz.isAgg64, Tryz.sizeOf64⟩
theorem ty_65 : IsAgg Tryz.prog 65 true ∧ SizeOf Tryz.prog 65 7 := ⟨Tryz.isAgg65, Tryz.sizeOf65⟩
theorem ty_66 : IsAgg Tryz.prog 66 false ∧ SizeOf Tryz.prog 66 1 := ⟨Tryz.isAgg66, Tryz.sizeOf66⟩
theorem ty_67 : IsAgg Tryz.prog 67 false ∧ SizeOf Tryz.prog 67 1 := ⟨Tryz.isAgg67, Tryz.sizeOf67⟩
theorem ty_68 : IsAgg Tryz.prog 68 false ∧ SizeOf Tryz.prog 68 1 := ⟨Tryz.isAgg68, Tryz.sizeOf68⟩
theorem ty_69 : IsAgg Tryz.prog 69 false ∧ SizeOf Tryz.prog 69 1 := ⟨Tryz.isAgg69, Tryz.sizeOf69⟩
theorem ty_70 : IsAgg Tryz.prog 70 false ∧ SizeOf Tryz.prog 70 1 := ⟨Tryz.isAgg70, Tryz.sizeOf70⟩
theorem ty_71 : IsAgg Tryz.prog 71 false ∧ SizeOf Tryz.prog 71 1 := ⟨Tryz.isAgg71, Tryz.sizeOf71⟩
theorem ty_73 : IsAgg Tryz.prog 73 false ∧ SizeOf Tryz.prog 73 1 := ⟨Tryz.isAgg73, Tryz.sizeOf73⟩
theorem ty_75 : IsAgg Tryz.prog 75 false ∧ SizeOf Tryz.prog 75 1 := ⟨Tryz.isAgg75, Tryz.sizeOf75⟩
theorem ty_76 : IsAgg Tryz.prog 76 false ∧ SizeOf Tryz.prog 76 1 := ⟨Tryz.isAgg76, Tryz.sizeOf76⟩
theorem ty_77 : IsAgg Tryz.prog 77 false ∧ SizeOf Tryz.prog 77 1 := ⟨Tryz.isAgg77, Tryz.sizeOf77⟩
theorem ty_78 : IsAgg Tryz.prog 78 false ∧ SizeOf Tryz.prog 78 1 := ⟨Tryz.isAgg78, Tryz.sizeOf78⟩
theorem ty_79 : IsAgg Tryz.prog 79 true ∧ SizeOf Tryz.prog 79 6 := ⟨Tryz.isAgg79, Tryz.sizeOf79⟩
theorem ty_80 : IsAgg Tryz.prog 80 true ∧ SizeOf Tryz.prog 80 6 := ⟨Tryz.isAgg80, Tryz.sizeOf80⟩
theorem ty_81 : IsAgg Tryz.prog 81 false ∧ SizeOf Tryz.prog 81 1 := ⟨Tryz.isAgg81, Tryz.sizeOf81⟩
theorem ty_82 : IsAgg Tryz.prog 82 false ∧ SizeOf Tryz.prog 82 1 := ⟨Tryz.isAgg82, Tryz.sizeOf82⟩
theorem ty_83 : IsAgg Tryz.prog 83 false ∧ SizeOf Tryz.prog 83 1 := ⟨Tryz.isAgg83, Tryz.sizeOf83⟩
theorem ty_84 : IsAgg Tryz.prog 84 false ∧ SizeOf Tryz.prog 84 1 := ⟨Tryz.isAgg84, Tryz.sizeOf84⟩
theorem ty_85 : IsAgg Tryz.prog 85 false ∧ SizeOf Tryz.prog 85 1 := ⟨Tryz.isAgg85, Tryz.sizeOf85⟩
theorem ty_86 : IsAgg Tryz.prog 86 true ∧ SizeOf Tryz.prog 86 6 := ⟨Tryz.isAgg86, Tryz.sizeOf86⟩
theorem ty_87 : IsAgg Tryz.prog 87 true ∧ SizeOf Tryz.prog 87 6 := ⟨Tryz.isAgg87, Tryz.sizeOf87⟩
theorem ty_88 : IsAgg Tryz.prog 88 false ∧ SizeOf Tryz.prog 88 1 := ⟨Tryz.isAgg88, Tryz.sizeOf88⟩
theorem ty_89 : IsAgg Tryz.prog 89 true ∧ SizeOf Tryz.prog 89 18 := ⟨Tryz.isAgg89, Tryz.sizeOf89⟩
theorem ty_90 : IsAgg Tryz.prog 90 true ∧ SizeOf Tryz.prog 90 18 := ⟨Tryz.isAgg90, Tryz.sizeOf90⟩
theorem ty_91 : IsAgg Tryz.prog 91 false ∧ SizeOf Tryz.prog 91 1 := ⟨Tryz.isAgg91, Tryz.sizeOf91⟩
theorem ty_92 : IsAgg Tryz.prog 92 true ∧ SizeOf Tryz.prog 92 3 := ⟨Tryz.isAgg92, Tryz.sizeOf92⟩
theorem ty_93 : IsAgg Tryz.prog 93 true ∧ SizeOf Tryz.prog 93 3 := ⟨Tryz.isAgg93, Tryz.sizeOf93⟩
theorem ty_95 : IsAgg Tryz.prog 95 false ∧ SizeOf Tryz.prog 95 1 := ⟨Tryz.isAgg95, Tryz.sizeOf95⟩
theorem ty_96 : IsAgg Tryz.prog 96 false ∧ SizeOf Tryz.prog 96 1 := ⟨Tryz.isAgg96, Tryz.sizeOf96⟩
theorem ty_97 : IsAgg Tryz.prog 97 false ∧ SizeOf Tryz.prog 97 1 := ⟨Tryz.isAgg97, Tryz.sizeOf97⟩
theorem ty_98 : IsAgg Tryz.prog 98 false ∧ SizeOf Tryz.prog 98 1 := ⟨Tryz.isAgg98, Tryz.sizeOf98⟩
theorem ty_99 : IsAgg Tryz.prog 99 true ∧ SizeOf Tryz.prog 99 3 := ⟨Tryz.isAgg99, Tryz.sizeOf99⟩
theorem ty_100 : IsAgg Tryz.prog 100 false ∧ SizeOf Tryz.prog 100 1 := ⟨Tryz.isAgg100, Tryz.sizeOf100⟩
theorem ty_101 : IsAgg Tryz.prog 101 false ∧ SizeOf Tryz.prog 101 1 := ⟨Tryz.isAgg101, Tryz.sizeOf101⟩
theorem ty_102 : IsAgg Tryz.prog 102 false ∧ SizeOf Tryz.prog 102 1 := ⟨Tryz.isAgg102, Tryz.sizeOf102⟩
theorem ty_103 : IsAgg Tryz.prog 103 false ∧ SizeOf Tryz.prog 103 1 := ⟨Tryz.isAgg103, Tryz.sizeOf103⟩
theorem ty_104 : IsAgg Tryz.prog 104 true ∧ SizeOf Tryz.prog 104 3 := ⟨Tryz.isAgg104, Tryz.sizeOf104⟩
theorem ty_105 : IsAgg Tryz.prog 105 true ∧ SizeOf Tryz.prog 105 3 := ⟨Tryz.isAgg105, Tryz.sizeOf105⟩
theorem ty_106 : IsAgg Tryz.prog 106 true ∧ SizeOf Tryz.prog 106 4 := ⟨Tryz.isAgg106, Tryz.sizeOf106⟩
theorem ty_107 : IsAgg Tryz.prog 107 true ∧ SizeOf Tryz.prog 107 4 := ⟨Tryz.isAgg107, Tryz.sizeOf107⟩
theorem ty_108 : IsAgg Tryz.prog 108 true ∧ SizeOf Tryz.prog 108 32 := ⟨Tryz.isAgg108, Tryz.sizeOf108⟩
theorem ty_109 : IsAgg Tryz.prog 109 true ∧ SizeOf Tryz.prog 109 37 := ⟨Tryz.isAgg109, Tryz.sizeOf109⟩
theorem ty_110 : IsAgg Tryz.prog 110 true ∧ SizeOf Tryz.prog 110 37 := ⟨Tryz.isAgg110, Tryz.sizeOf110⟩
theorem ty_112 : IsAgg Tryz.prog 112 false ∧ SizeOf Tryz.prog 112 1 := ⟨Tryz.isAgg112, Tryz.sizeOf112⟩
theorem ty_113 : IsAgg Tryz.prog 113 false ∧ SizeOf Tryz.prog 113 1 := ⟨Tryz.isAgg113, Tryz.sizeOf113⟩
theorem ty_115 : IsAgg Tryz.prog 115 false ∧ SizeOf Tryz.prog 115 1 := ⟨Tryz.isAgg115, Tryz.sizeOf115⟩
theorem ty_116 : IsAgg Tryz.prog 116 false ∧ SizeOf Tryz.prog 116 1 := ⟨Tryz.isAgg116, Tryz.sizeOf116⟩
theorem ty_117 : IsAgg Tryz.prog 117 false ∧ SizeOf Tryz.prog 117 1 := ⟨Tryz.isAgg117, Tryz.sizeOf117⟩
theorem ty_118 : IsAgg Tryz.prog 118 false ∧ SizeOf Tryz.prog 118 1 := ⟨Tryz.isAgg118, Tryz.sizeOf118⟩
theorem ty_119 : IsAgg Tryz.prog 119 true ∧ SizeOf Tryz.prog 119 9 := ⟨Tryz.isAgg119, Tryz.sizeOf119⟩
theorem ty_120 : IsAgg Tryz.prog 120 false ∧ SizeOf Tryz.prog 120 1 := ⟨Tryz.isAgg120, Tryz.sizeOf120⟩
theorem ty_121 : IsAgg Tryz.prog 121 false ∧ SizeOf Tryz.prog 121 1 := ⟨Tryz.isAgg121, Tryz.sizeOf121⟩
theorem ty_122 : IsAgg Tryz.prog 122 true ∧ SizeOf Tryz.prog 122 3 := ⟨Tryz.isAgg122, Tryz.sizeOf122⟩
theorem ty_123 : IsAgg Tryz.prog 123 true ∧ SizeOf Tryz.prog 123 3 := ⟨Tryz.isAgg123, Tryz.sizeOf123⟩
theorem ty_124 : IsAgg Tryz.prog 124 false ∧ SizeOf Tryz.prog 124 1 := ⟨Tryz.isAgg124, Tryz.sizeOf124⟩
theorem ty_126 : IsAgg Tryz.prog 126 false ∧ SizeOf Tryz.prog 126 1 := ⟨Tryz.isAgg126, Tryz.sizeOf126⟩
theorem ty_127 : IsAgg Tryz.prog 127 false ∧ SizeOf Tryz.prog 127 1 := ⟨Tryz.isAgg127, Tryz.sizeOf127⟩
theorem ty_128 : IsAgg Tryz.prog 128 false ∧ SizeOf Tryz.prog 128 1 := ⟨Tryz.isAgg128, Tryz.sizeOf128⟩
theorem ty_129 : IsAgg Tryz.prog 129 false ∧ SizeOf Tryz.prog 129 1 := ⟨Tryz.isAgg129, Tryz.sizeOf129⟩
theorem ty_130 : IsAgg Tryz.prog 130 false ∧ SizeOf Tryz.prog 130 1 := ⟨Tryz.isAgg130, Tryz.sizeOf130⟩
theorem ty_131 : IsAgg Tryz.prog 131 false ∧ SizeOf Tryz.prog 131 1 := ⟨Tryz.isAgg131, Tryz.sizeOf131⟩
theorem ty_132 : IsAgg Tryz.prog 132 false ∧ SizeOf Tryz.prog 132 1 := ⟨Tryz.isAgg132, Tryz.sizeOf132⟩
theorem ty_134 : IsAgg Tryz.prog 134 false ∧ SizeOf Tryz.prog 134 1 := ⟨Tryz.isAgg134, Tryz.sizeOf134⟩
theorem ty_135 : IsAgg Tryz.prog 135 false ∧ SizeOf Tryz.prog 135 1 := ⟨Tryz.isAgg135, Tryz.sizeOf135⟩
theorem ty_136 : IsAgg Tryz.prog 136 false ∧ SizeOf Tryz.prog 136 1 := ⟨Tryz.isAgg136, Tryz.sizeOf136⟩
theorem ty_138 : IsAgg Tryz.prog 138 false ∧ SizeOf Tryz.prog 138 1 := ⟨Tryz.isAgg138, Tryz.sizeOf138⟩
theorem ty_139 : IsAgg Tryz.prog 139 false ∧ SizeOf Tryz.prog 139 1 := ⟨Tryz.isAgg139, Tryz.sizeOf139⟩
theorem ty_140 : IsAgg Tryz.prog 140 true ∧ SizeOf Tryz.prog 140 6 := ⟨Tryz.isAgg140, Tryz.sizeOf140⟩
theorem ty_141 : IsAgg Tryz.prog 141 true ∧ SizeOf Tryz.prog 141 6 := ⟨Tryz.isAgg141, Tryz.sizeOf141⟩
theorem ty_142 : IsAgg Tryz.prog 142 false ∧ SizeOf Tryz.prog 142 1 := ⟨Tryz.isAgg142, Tryz.sizeOf142⟩
theorem ty_143 : IsAgg Tryz.prog 143 true ∧ SizeOf Tryz.prog 143 11 := ⟨Tryz.isAgg143, Tryz.sizeOf143⟩
theorem ty_144 : IsAgg Tryz.prog 144 true ∧ SizeOf Tryz.prog 144 11 := ⟨Tryz.isAgg144, Tryz.sizeOf144⟩
theorem ty_145 : IsAgg Tryz.prog 145 false ∧ SizeOf Tryz.prog 145 1 := ⟨Tryz.isAgg145, Tryz.sizeOf145⟩
theorem ty_146 : IsAgg Tryz.prog 146 true ∧ SizeOf Tryz.prog 146 6 := ⟨Tryz.isAgg146, Tryz.sizeOf146⟩
theorem ty_147 : IsAgg Tryz.prog 147 true ∧ SizeOf Tryz.prog 147 6 := ⟨Tryz.isAgg147, Tryz.sizeOf147⟩
theorem ty_148 : IsAgg Tryz.prog 148 false ∧ SizeOf Tryz.prog 148 1 := ⟨Tryz.isAgg148, Tryz.sizeOf148⟩
theorem ty_149 : IsAgg Tryz.prog 149 true ∧ SizeOf Tryz.prog 149 10 := ⟨Tryz.isAgg149, Tryz.sizeOf149⟩
theorem ty_150 : IsAgg Tryz.prog 150 true ∧ SizeOf Tryz.prog 150 10 := ⟨Tryz.isAgg150, Tryz.sizeOf150⟩
theorem ty_152 : IsAgg Tryz.prog 152 false ∧ SizeOf Tryz.prog 152 1 := ⟨Tryz.isAgg152, Tryz.sizeOf152⟩
theorem ty_153 : IsAgg Tryz.prog 153 false ∧ SizeOf Tryz.prog 153 1 := ⟨Tryz.isAgg153, Tryz.sizeOf153⟩
theorem ty_154 : IsAgg Tryz.prog 154 true ∧ SizeOf Tryz.prog 154 9 := ⟨Tryz.isAgg154, Tryz.sizeOf154⟩
theorem ty_155 : IsAgg Tryz.prog 155 false ∧ SizeOf Tryz.prog 155 1 := ⟨Tryz.isAgg155, Tryz.sizeOf155⟩
theorem ty_156 : IsAgg Tryz.prog 156 false ∧ SizeOf Tryz.prog 156 1 := ⟨Tryz.isAgg156, Tryz.sizeOf156⟩
theorem ty_157 : IsAgg Tryz.prog 157 false ∧ SizeOf Tryz.prog 157 1 := ⟨Tryz.isAgg157, Tryz.sizeOf157⟩
theorem ty_158 : IsAgg Tryz.prog 158 false ∧ SizeOf Tryz.prog 158 1 := ⟨Tryz.isAgg158, Tryz.sizeOf158⟩
theorem ty_159 : IsAgg Tryz.prog 159 false ∧ SizeOf Tryz.prog 159 1 := ⟨Tryz.isAgg159, Tryz.sizeOf159⟩
theorem ty_161 : IsAgg Tryz.prog 161 false ∧ SizeOf Tryz.prog 161 1 := ⟨Tryz.isAgg161, Tryz.sizeOf161⟩
theorem ty_162 : IsAgg Tryz.prog 162 false ∧ SizeOf Tryz.prog 162 1 := ⟨Tryz.isAgg162, Tryz.sizeOf162⟩
theorem ty_163 : IsAgg Tryz.prog 163 false ∧ SizeOf Tryz.prog 163 1 := ⟨Tryz.isAgg163, Tryz.sizeOf163⟩
theorem ty_164 : IsAgg Tryz.prog 164 false ∧ SizeOf Tryz.prog 164 1 := ⟨Tryz.isAgg164, Tryz.sizeOf164⟩
theorem ty_165 : IsAgg Tryz.prog 165 false ∧ SizeOf Tryz.prog 165 1 := ⟨Tryz.isAgg165, Tryz.sizeOf165⟩
theorem ty_166 : IsAgg Tryz.prog 166 false ∧ SizeOf Tryz.prog 166 1 := ⟨Tryz.isAgg166, Tryz.sizeOf166⟩
theorem ty_167 : IsAgg Tryz.prog 167 false ∧ SizeOf Tryz.prog 167 1 := ⟨Tryz.isAgg167, Tryz.sizeOf167⟩
theorem ty_168 : IsAgg Tryz.prog 168 false ∧ SizeOf Tryz.prog 168 1 := ⟨Tryz.isAgg168, Tryz.sizeOf168⟩
theorem ty_169 : IsAgg Tryz.prog 169 false ∧ SizeOf Tryz.prog 169 1 := ⟨Tryz.isAgg169, Tryz.sizeOf169⟩
theorem ty_171 : IsAgg Tryz.prog 171 false ∧ SizeOf Tryz.prog 171 1 := ⟨Tryz.isAgg171, Tryz.sizeOf171⟩
theorem ty_172 : IsAgg Tryz.prog 172 false ∧ SizeOf Tryz.prog 172 1 := ⟨Tryz.isAgg172, Tryz.sizeOf172⟩
theorem ty_173 : IsAgg Tryz.prog 173 false ∧ SizeOf Tryz.prog 173 1 := ⟨Tryz.isAgg173, Tryz.sizeOf173⟩
theorem ty_175 : IsAgg Tryz.prog 175 false ∧ SizeOf Tryz.prog 175 1 := ⟨Tryz.isAgg175, Tryz.sizeOf175⟩
theorem ty_176 : IsAgg Tryz.prog 176 false ∧ SizeOf Tryz.prog 176 1 := ⟨Tryz.isAgg176, Tryz.sizeOf176⟩
theorem ty_178 : IsAgg Tryz.prog 178 false ∧ SizeOf Tryz.prog 178 1 := ⟨Tryz.isAgg178, Tryz.sizeOf178⟩
theorem ty_179 : IsAgg Tryz.prog 179 false ∧ SizeOf Tryz.prog 179 1 := ⟨Tryz.isAgg179, Tryz.sizeOf179⟩
theorem ty_180 : IsAgg Tryz.prog 180 false ∧ SizeOf Tryz.prog 180 1 := ⟨Tryz.isAgg180, Tryz.sizeOf180⟩
theorem ty_181 : IsAgg Tryz.prog 181 false ∧ SizeOf Tryz.prog 181 1 := ⟨Tryz.isAgg181, Tryz.sizeOf181⟩
theorem ty_182 : IsAgg Tryz.prog 182 false ∧ SizeOf Tryz.prog 182 1 := ⟨Tryz.isAgg182, Tryz.sizeOf182⟩
theorem ty_183 : IsAgg Tryz.prog 183 false ∧ SizeOf Tryz.prog 183 1 := ⟨Tryz.isAgg183, Tryz.sizeOf183⟩
theorem ty_184 : IsAgg Tryz.prog 184 false ∧ SizeOf Tryz.prog 184 1 := ⟨Tryz.isAgg184, Tryz.sizeOf184⟩
theorem ty_185 : IsAgg Tryz.prog 185 false ∧ SizeOf Tryz.prog 185 1 := ⟨Tryz.isAgg185, Tryz.sizeOf185⟩
theorem ty_186 : IsAgg Tryz.prog 186 false ∧ SizeOf Tryz.prog 186 1 := ⟨Tryz.isAgg186, Tryz.sizeOf186⟩
theorem ty_187 : IsAgg Tryz.prog 187 false ∧ SizeOf Tryz.prog 187 1 := ⟨Tryz.isAgg187, Tryz.sizeOf187⟩
theorem ty_189 : IsAgg Tryz.prog 189 false ∧ SizeOf Tryz.prog 189 1 := ⟨Tryz.isAgg189, Tryz.sizeOf189⟩
theorem ty_190 : IsAgg Tryz.prog 190 false ∧ SizeOf Tryz.prog 190 1 := ⟨Tryz.isAgg190, Tryz.sizeOf190⟩
theorem ty_192 : IsAgg Tryz.prog 192 false ∧ SizeOf Tryz.prog 192 1 := ⟨Tryz.isAgg192, Tryz.sizeOf192⟩
theorem ty_193 : IsAgg Tryz.prog 193 false ∧ SizeOf Tryz.prog 193 1 := ⟨Tryz.isAgg193, Tryz.sizeOf193⟩
theorem ty_194 : IsAgg Tryz.prog 194 false ∧ SizeOf Tryz.prog 194 1 := ⟨Tryz.isAgg194, Tryz.sizeOf194⟩
theorem ty_195 : IsAgg Tryz.prog 195 false ∧ SizeOf Tryz.prog 195 1 := ⟨Tryz.isAgg195, Tryz.sizeOf195⟩
theorem ty_196 : IsAgg Tryz.prog 196 false ∧ SizeOf Tryz.prog 196 1 := ⟨Tryz.isAgg196, Tryz.sizeOf196⟩
theorem ty_197 : IsAgg Tryz.prog 197 false ∧ SizeOf Tryz.prog 197 1 := ⟨Tryz.isAgg197, Tryz.sizeOf197⟩
theorem ty_198 : IsAgg Tryz.prog 198 true ∧ SizeOf Tryz.prog 198 6 := ⟨Tryz.isAgg198, Tryz.sizeOf198⟩
theorem ty_200 : IsAgg Tryz.prog 200 false ∧ SizeOf Tryz.prog 200 1 := ⟨Tryz.isAgg200, Tryz.sizeOf200⟩
theorem ty_202 : IsAgg Tryz.prog 202 false ∧ SizeOf Tryz.prog 202 1 := ⟨Tryz.isAgg202, Tryz.sizeOf202⟩
theorem ty_203 : IsAgg Tryz.prog 203 false ∧ SizeOf Tryz.prog 203 1 := ⟨Tryz.isAgg203, Tryz.sizeOf203⟩
theorem ty_204 : IsAgg Tryz.prog 204 false ∧ SizeOf Tryz.prog 204 1 := ⟨Tryz.isAgg204, Tryz.sizeOf204⟩
theorem ty_205 : IsAgg Tryz.prog 205 false ∧ SizeOf Tryz.prog 205 1 := ⟨Tryz.isAgg205, Tryz.sizeOf205⟩
theorem ty_206 : IsAgg Tryz.prog 206 false ∧ SizeOf Tryz.prog 206 1 := ⟨Tryz.isAgg206, Tryz.sizeOf206⟩
theorem ty_207 : IsAgg Tryz.prog 207 false ∧ SizeOf Tryz.prog 207 1 := ⟨Tryz.isAgg207, Tryz.sizeOf207⟩
theorem ty_209 : IsAgg Tryz.prog 209 false ∧ SizeOf Tryz.prog 209 1 := ⟨Tryz.isAgg209, Tryz.sizeOf209⟩
theorem ty_210 : IsAgg Tryz.prog 210 false ∧ SizeOf Tryz.prog 210 1 := ⟨Tryz.isAgg210, Tryz.sizeOf210⟩
theorem ty_211 : IsAgg Tryz.prog 211 false ∧ SizeOf Tryz.prog 211 1 := ⟨Tryz.isAgg211, Tryz.sizeOf211⟩
theorem ty_212 : IsAgg Tryz.prog 212 false ∧ SizeOf Tryz.prog 212 1 := ⟨Tryz.isAgg212, Tryz.sizeOf212⟩
theorem ty_213 : IsAgg Tryz.prog 213 true ∧ SizeOf Tryz.prog 213 4 := ⟨Tryz.isAgg213, Tryz.sizeOf213⟩
theorem ty_214 : IsAgg Tryz.prog 214 true ∧ SizeOf Tryz.prog 214 4 := ⟨Tryz.isAgg214, Tryz.sizeOf214⟩
theorem ty_215 : IsAgg Tryz.prog 215 false ∧ SizeOf Tryz.prog 215 1 := ⟨Tryz.isAgg215, Tryz.sizeOf215⟩
theorem ty_216 : IsAgg Tryz.prog 216 false ∧ SizeOf Tryz.prog 216 1 := ⟨Tryz.isAgg216, Tryz.sizeOf216⟩
theorem ty_217 : IsAgg Tryz.prog 217 true ∧ SizeOf Tryz.prog 217 4 := ⟨Tryz.isAgg217, Tryz.sizeOf217⟩
theorem ty_219 : IsAgg Tryz.prog 219 false ∧ SizeOf Tryz.prog 219 1 := ⟨Tryz.isAgg219, Tryz.sizeOf219⟩
theorem ty_220 : IsAgg Tryz.prog 220 false ∧ SizeOf Tryz.prog 220 1 := ⟨Tryz.isAgg220, Tryz.sizeOf220⟩
theorem ty_221 : IsAgg Tryz.prog 221 false ∧ SizeOf Tryz.prog 221 1 := ⟨Tryz.isAgg221, Tryz.sizeOf221⟩
theorem ty_222 : IsAgg Tryz.prog 222 false ∧ SizeOf Tryz.prog 222 1 := ⟨Tryz.isAgg222, Tryz.sizeOf222⟩
theorem ty_223 : IsAgg Tryz.prog 223 false ∧ SizeOf Tryz.prog 223 1 := ⟨Tryz.isAgg223, Tryz.sizeOf223⟩
theorem ty_224 : IsAgg Tryz.prog 224 false ∧ SizeOf Tryz.prog 224 1 := ⟨Tryz.isAgg224, Tryz.sizeOf224⟩
theorem ty_230 : IsAgg Tryz.prog 230 false ∧ SizeOf Tryz.prog 230 1 := ⟨Tryz.isAgg230, Tryz.sizeOf230⟩
theorem ty_233 : IsAgg Tryz.prog 233 false ∧ SizeOf Tryz.prog 233 1 := ⟨Tryz.isAgg233, Tryz.sizeOf233⟩
theorem ty_234 : IsAgg Tryz.prog 234 false ∧ SizeOf Tryz.prog 234 1 := ⟨Tryz.isAgg234, Tryz.sizeOf234⟩
theorem ty_239 : IsAgg Tryz.prog 239 false ∧ SizeOf Tryz.prog 239 1 := ⟨Tryz.isAgg239, Tryz.sizeOf239⟩
theorem ze_1 : ZeroOf Tryz.prog 1 (.nilFunc) := Tryz.zeroValue1
theorem ze_2 : ZeroOf Tryz.prog 2 (.int .i64 0) := Tryz.zeroValue2
theorem ze_3 : ZeroOf Tryz.prog 3 (.int .i64 0) := Tryz.zeroValue3
theorem ze_4 : ZeroOf Tryz.prog 4 (.bool false) := Tryz.zeroValue4
theorem ze_5 : ZeroOf Tryz.prog 5 (.int .u8 0) := Tryz.zeroValue5
theorem ze_9 : ZeroOf Tryz.prog 9 (.string ⟨#[]⟩) := Tryz.zeroValue9
theorem ze_12 : ZeroOf Tryz.prog 12 (.int .u64 0) := Tryz.zeroValue12
theorem ze_13 : ZeroOf Tryz.prog 13 (.agg #[.string ⟨#[]⟩, .int .u64 0]) := Tryz.zeroValue13
theorem ze_20 : ZeroOf Tryz.prog 20 (.nilIface) := Tryz.zeroValue20
theorem ze_21 : ZeroOf Tryz.prog 21 (.int .i32 0) := Tryz.zeroValue21
theorem ze_22 : ZeroOf Tryz.prog 22 (.slice none 0 0) := Tryz.zeroValue22
theorem ze_23 : ZeroOf Tryz.prog 23 (.pointer none) := Tryz.zeroValue23
theorem ze_24 : ZeroOf Tryz.prog 24 (.nilFunc) := Tryz.zeroValue24
theorem ze_25 : ZeroOf Tryz.prog 25 (.nilFunc) := Tryz.zeroValue25
theorem ze_26 : ZeroOf Tryz.prog 26 (.int .i64 0) := Tryz.zeroValue26
theorem ze_28 : ZeroOf Tryz.prog 28 (.pointer none) := Tryz.zeroValue28
theorem ze_29 : ZeroOf Tryz.prog 29 (.pointer none) := Tryz.zeroValue29
theorem ze_30 : ZeroOf Tryz.prog 30 (.slice none 0 0) := Tryz.zeroValue30
theorem ze_31 : ZeroOf Tryz.prog 31 (.agg #[.slice none 0 0, .int .i64 0]) := Tryz.zeroValue31
theorem ze_32 : ZeroOf Tryz.prog 32 (.agg #[.slice none 0 0, .int .i64 0]) := Tryz.zeroValue32
theorem ze_33 : ZeroOf Tryz.prog 33 (.slice none 0 0) := Tryz.zeroValue33
theorem ze_34 : ZeroOf Tryz.prog 34 (.slice none 0 0) := Tryz.zeroValue34
theorem ze_35 : ZeroOf Tryz.prog 35 (.agg #[.slice none 0 0, .int .i64 0, .int .i64 0, .int .i64 0, .slice none 0 0, .int .i64 0, .slice none 0 0]) := Tryz.zeroValue35
theorem ze_36 : ZeroOf Tryz.prog 36 (.agg #[.slice none 0 0, .int .i64 0, .int .i64 0, .int .i64 0, .slice none 0 0, .int .i64 0, .slice none 0 0]) := Tryz.zeroValue36
theorem ze_37 : ZeroOf Tryz.prog 37 (.slice none 0 0) := Tryz.zeroValue37
theorem ze_38 : ZeroOf Tryz.prog 38 (.int .u64 0) := Tryz.zeroValue38
theorem ze_39 : ZeroOf Tryz.prog 39 (.agg #[.int .u64 0, .int .u64 0, .int .u64 0, .int .u64 0, .int .u64 0, .int .u64 0]) := Tryz.zeroValue39
theorem ze_40 : ZeroOf Tryz.prog 40 (.agg #[.int .u64 0, .int .u64 0, .int .u64 0, .int .u64 0, .int .u64 0, .int .u64 0]) := Tryz.zeroValue40
theorem ze_41 : ZeroOf Tryz.prog 41 (.slice none 0 0) := Tryz.zeroValue41
theorem ze_42 : ZeroOf Tryz.prog 42 (.agg #[.slice none 0 0, .int .i64 0, .int .i64 0, .int .i64 0, .slice none 0 0, .int .i64 0, .slice none 0 0, .int .i64 0, .int .i64 0, .slice none 0 0, .int .i64 0, .int .u64 0, .int .u64 0, .int .u64 0, .int .u64 0, .int .u64 0, .int .u64 0, .slice none 0 0]) := Tryz.zeroValue42
theorem ze_43 : ZeroOf Tryz.prog 43 (.agg #[.slice none 0 0, .int .i64 0, .int .i64 0, .int .i64 0, .slice none 0 0, .int .i64 0, .slice none 0 0, .int .i64 0, .int .i64 0, .slice none 0 0, .int .i64 0, .int .u64 0, .int .u64 0, .int .u64 0, .int .u64 0, .int .u64 0, .int .u64 0, .slice none 0 0]) := Tryz.zeroValue43
theorem ze_44 : ZeroOf Tryz.prog 44 (.agg #[.pointer none, .pointer none, .slice none 0 0, .int .i64 0, .int .i64 0, .int .i64 0, .slice none 0 0, .int .i64 0, .slice none 0 0, .int .i64 0, .int .i64 0, .slice none 0 0, .int .i64 0, .int .u64 0, .int .u64 0, .int .u64 0, .int .u64 0, .int .u64 0, .int .u64 0, .slice none 0 0, .int .i64 0]) := Tryz.zeroValue44
theorem ze_45 : ZeroOf Tryz.prog 45 (.agg #[.pointer none, .pointer none, .slice none 0 0, .int .i64 0, .int .i64 0, .int .i64 0, .slice none 0 0, .int .i64 0, .slice none 0 0, .int .i64 0, .int .i64 0, .slice none 0 0, .int .i64 0, .int .u64 0, .int .u64 0, .int .u64 0, .int .u64 0, .int .u64 0, .int .u64 0, .slice none 0 0, .int .i64 0]) := Tryz.zeroValue45
theorem ze_46 : ZeroOf Tryz.prog 46 (.nilFunc) := Tryz.zeroValue46
theorem ze_47 : ZeroOf Tryz.prog 47 (.agg #[.int .i64 0, .int .i64 0, .int .i64 0, .int .i64 0, .slice none 0 0]) := Tryz.zeroValue47
theorem ze_48 : ZeroOf Tryz.prog 48 (.agg #[.int .i64 0, .int .i64 0, .int .i64 0, .int .i64 0, .slice none 0 0]) := Tryz.zeroValue48
theorem ze_49 : ZeroOf Tryz.prog 49 (.nilFunc) := Tryz.zeroValue49
theorem ze_50 : ZeroOf Tryz.prog 50 (.nilFunc) := Tryz.zeroValue50
theorem ze_51 : ZeroOf Tryz.prog 51 (.pointer none) := Tryz.zeroValue51
theorem ze_52 : ZeroOf Tryz.prog 52 (.pointer none) := Tryz.zeroValue52
theorem ze_53 : ZeroOf Tryz.prog 53 (.slice none 0 0) := Tryz.zeroValue53
theorem ze_54 : ZeroOf Tryz.prog 54 (.agg #[.pointer none, .pointer none, .pointer none, .int .i64 0, .int .i64 0, .int .u64 0, .int .u64 0, .int .u64 0, .int .u64 0, .int .u64 0, .int .u64 0, .slice none 0 0]) := Tryz.zeroValue54
theorem ze_55 : ZeroOf Tryz.prog 55 (.agg #[.pointer none, .pointer none, .pointer none, .int .i64 0, .int .i64 0, .int .u64 0, .int .u64 0, .int .u64 0, .int .u64 0, .int .u64 0, .int .u64 0, .slice none 0 0]) := Tryz.zeroValue55
theorem ze_56 : ZeroOf Tryz.prog 56 (.nilFunc) := Tryz.zeroValue56
theorem ze_57 : ZeroOf Tryz.prog 57 (.nilFunc) := Tryz.zeroValue57
theorem ze_58 : ZeroOf Tryz.prog 58 (.nilFunc) := Tryz.zeroValue58
theorem ze_59 : ZeroOf Tryz.prog 59 (.agg #[.int .i64 0, .int .i64 0, .bool false, .int .i64 0, .slice none 0 0, .int .u64 0, .int .u64 0, .int .u64 0, .int .u64 0, .int .u64 0, .int .u64 0]) := Tryz.zeroValue59
theorem ze_60 : ZeroOf Tryz.prog 60 (.agg #[.int .i64 0, .int .i64 0, .bool false, .int .i64 0, .slice none 0 0, .int .u64 0, .int .u64 0, .int .u64 0, .int .u64 0, .int .u64 0, .int .u64 0]) := Tryz.zeroValue60
theorem ze_61 : ZeroOf Tryz.prog 61 (.nilFunc) := Tryz.zeroValue61
theorem ze_62 : ZeroOf Tryz.prog 62 (.slice none 0 0) := Tryz.zeroValue62
theorem ze_63 : ZeroOf Tryz.prog 63 (.nilFunc) := Tryz.zeroValue63
theorem ze_64 : ZeroOf Tryz.prog 64 (.agg #[.int .i64 0, .int .i64 0, .int .i64 0, .int .i64 0, .int .i64 0, .slice none 0 0, .bool false]) := Tryz.zeroValue64
theorem ze_65 : ZeroOf Tryz.prog 65 (.agg #[.int .i64 0, .int .i64 0, .int .i64 0, .int .i64 0, .int .i64 0, .slice none 0 0, .bool false]) := Tryz.zeroValue65
theorem ze_66 : ZeroOf Tryz.prog 66 (.nilFunc) := Tryz.zeroValue66
theorem ze_67 : ZeroOf Tryz.prog 67 (.nilFunc) := Tryz.zeroValue67
theorem ze_68 : ZeroOf Tryz.prog 68 (.nilFunc) := Tryz.zeroValue68
theorem ze_69 : ZeroOf Tryz.prog 69 (.nilFunc) := Tryz.zeroValue69
theorem ze_70 : ZeroOf Tryz.prog 70 (.nilFunc) := Tryz.zeroValue70
theorem ze_71 : ZeroOf Tryz.prog 71 (.nilFunc) := Tryz.zeroValue71
theorem ze_73 : ZeroOf Tryz.prog 73 (.nilFunc) := Tryz.zeroValue73
theorem ze_75 : ZeroOf Tryz.prog 75 (.nilFunc) := Tryz.zeroValue75
theorem ze_76 : ZeroOf Tryz.prog 76 (.nilFunc) := Tryz.zeroValue76
theorem ze_77 : ZeroOf Tryz.prog 77 (.nilFunc) := Tryz.zeroValue77
theorem ze_78 : ZeroOf Tryz.prog 78 (.nilFunc) := Tryz.zeroValue78
theorem ze_79 : ZeroOf Tryz.prog 79 (.agg #[.int .i64 0, .int .i64 0, .int .i64 0, .int .i64 0, .int .i64 0, .slice none 0 0]) := Tryz.zeroValue79
theorem ze_80 : ZeroOf Tryz.prog 80 (.agg #[.int .i64 0, .int .i64 0, .int .i64 0, .int .i64 0, .int .i64 0, .slice none 0 0]) := Tryz.zeroValue80
theorem ze_81 : ZeroOf Tryz.prog 81 (.nilFunc) := Tryz.zeroValue81
theorem ze_82 : ZeroOf Tryz.prog 82 (.nilFunc) := Tryz.zeroValue82
theorem ze_83 : ZeroOf Tryz.prog 83 (.slice none 0 0) := Tryz.zeroValue83
theorem ze_84 : ZeroOf Tryz.prog 84 (.nilFunc) := Tryz.zeroValue84
theorem ze_85 : ZeroOf Tryz.prog 85 (.slice none 0 0) := Tryz.zeroValue85
theorem ze_86 : ZeroOf Tryz.prog 86 (.agg #[.pointer none, .int .i64 0, .int .i64 0, .slice none 0 0, .int .i64 0, .slice none 0 0]) := Tryz.zeroValue86
theorem ze_87 : ZeroOf Tryz.prog 87 (.agg #[.pointer none, .int .i64 0, .int .i64 0, .slice none 0 0, .int .i64 0, .slice none 0 0]) := Tryz.zeroValue87
theorem ze_88 : ZeroOf Tryz.prog 88 (.nilFunc) := Tryz.zeroValue88
theorem ze_89 : ZeroOf Tryz.prog 89 (.agg #[.bool false, .int .i64 0, .int .i64 0, .bool false, .int .i64 0, .slice none 0 0, .int .u64 0, .int .u64 0, .int .u64 0, .int .u64 0, .int .u64 0, .int .u64 0, .int .u64 0, .int .u64 0, .int .u64 0, .int .u64 0, .int .u64 0, .int .u64 0]) := Tryz.zeroValue89
theorem ze_90 : ZeroOf Tryz.prog 90 (.agg #[.bool false, .int .i64 0, .int .i64 0, .bool false, .int .i64 0, .slice none 0 0, .int .u64 0, .int .u64 0, .int .u64 0, .int .u64 0, .int .u64 0, .int .u64 0, .int .u64 0, .int .u64 0, .int .u64 0, .int .u64 0, .int .u64 0, .int .u64 0]) := Tryz.zeroValue90
theorem ze_91 : ZeroOf Tryz.prog 91 (.nilFunc) := Tryz.zeroValue91
theorem ze_92 : ZeroOf Tryz.prog 92 (.agg #[.int .i64 0, .int .i64 0, .int .i64 0]) := Tryz.zeroValue92
theorem ze_93 : ZeroOf Tryz.prog 93 (.agg #[.int .i64 0, .int .i64 0, .int .i64 0]) := Tryz.zeroValue93
theorem ze_95 : ZeroOf Tryz.prog 95 (.nilFunc) := Tryz.zeroValue95
theorem ze_96 : ZeroOf Tryz.prog 96 (.nilFunc) := Tryz.zeroValue96
theorem ze_97 : ZeroOf Tryz.prog 97 (.nilFunc) := Tryz.zeroValue97
theorem ze_98 : ZeroOf Tryz.prog 98 (.nilFunc) := Tryz.zeroValue98
theorem ze_99 : ZeroOf Tryz.prog 99 (.agg #[.int .i64 0, .int .i64 0, .int .i64 0]) := Tryz.zeroValue99
theorem ze_100 : ZeroOf Tryz.prog 100 (.nilFunc) := Tryz.zeroValue100
theorem ze_101 : ZeroOf Tryz.prog 101 (.nilFunc) := Tryz.zeroValue101
theorem ze_102 : ZeroOf Tryz.prog 102 (.slice none 0 0) := Tryz.zeroValue102
theorem ze_103 : ZeroOf Tryz.prog 103 (.map none) := Tryz.zeroValue103
theorem ze_104 : ZeroOf Tryz.prog 104 (.agg #[.slice none 0 0, .map none, .int .i64 0]) := Tryz.zeroValue104
theorem ze_105 : ZeroOf Tryz.prog 105 (.agg #[.slice none 0 0, .map none, .int .i64 0]) := Tryz.zeroValue105
theorem ze_106 : ZeroOf Tryz.prog 106 (.agg #[.bool false, .bool false, .bool false, .int .i64 0]) := Tryz.zeroValue106
theorem ze_107 : ZeroOf Tryz.prog 107 (.agg #[.bool false, .bool false, .bool false, .int .i64 0]) := Tryz.zeroValue107
theorem ze_108 : ZeroOf Tryz.prog 108 (.agg #[.int .u8 0, .int .u8 0, .int .u8 0, .int .u8 0, .int .u8 0, .int .u8 0, .int .u8 0, .int .u8 0, .int .u8 0, .int .u8 0, .int .u8 0, .int .u8 0, .int .u8 0, .int .u8 0, .int .u8 0, .int .u8 0, .int .u8 0, .int .u8 0, .int .u8 0, .int .u8 0, .int .u8 0, .int .u8 0, .int .u8 0, .int .u8 0, .int .u8 0, .int .u8 0, .int .u8 0, .int .u8 0, .int .u8 0, .int .u8 0, .int .u8 0, .int .u8 0]) := Tryz.zeroValue108
theorem ze_109 : ZeroOf Tryz.prog 109 (.agg #[.bool false, .bool false, .bool false, .int .i64 0, .int .i64 0, .int .u8 0, .int .u8 0, .int .u8 0, .int .u8 0, .int .u8 0, .int .u8 0, .int .u8 0, .int .u8 0, .int .u8 0, .int .u8 0, .int .u8 0, .int .u8 0, .int .u8 0, .int .u8 0, .int .u8 0, .int .u8 0, .int .u8 0, .int .u8 0, .int .u8 0, .int .u8 0, .int .u8 0, .int .u8 0, .int .u8 0, .int .u8 0, .int .u8 0, .int .u8 0, .int .u8 0, .int .u8 0, .int .u8 0, .int .u8 0, .int .u8 0, .int .u8 0]) := Tryz.zeroValue109
theorem ze_110 : ZeroOf Tryz.prog 110 (.agg #[.bool false, .bool false, .bool false, .int .i64 0, .int .i64 0, .int .u8 0, .int .u8 0, .int .u8 0, .int .u8 0, .int .u8 0, .int .u8 0, .int .u8 0, .int .u8 0, .int .u8 0, .int .u8 0, .int .u8 0, .int .u8 0, .int .u8 0, .int .u8 0, .int .u8 0, .int .u8 0, .int .u8 0, .int .u8 0, .int .u8 0, .int .u8 0, .int .u8 0, .int .u8 0, .int .u8 0, .int .u8 0, .int .u8 0, .int .u8 0, .int .u8 0, .int .u8 0, .int .u8 0, .int .u8 0, .int .u8 0, .int .u8 0]) := Tryz.zeroValue110
theorem ze_112 : ZeroOf Tryz.prog 112 (.nilFunc) := Tryz.zeroValue112
theorem ze_113 : ZeroOf Tryz.prog 113 (.nilFunc) := Tryz.zeroValue113
theorem ze_115 : ZeroOf Tryz.prog 115 (.nilFunc) := Tryz.zeroValue115
theorem ze_116 : ZeroOf Tryz.prog 116 (.nilFunc) := Tryz.zeroValue116
theorem ze_117 : ZeroOf Tryz.prog 117 (.nilFunc) := Tryz.zeroValue117
theorem ze_118 : ZeroOf Tryz.prog 118 (.nilFunc) := Tryz.zeroValue118
theorem ze_119 : ZeroOf Tryz.prog 119 (.agg #[.nilFunc, .nilFunc, .nilFunc, .nilFunc, .nilFunc, .nilFunc, .nilFunc, .nilFunc, .nilFunc]) := Tryz.zeroValue119
theorem ze_120 : ZeroOf Tryz.prog 120 (.nilFunc) := Tryz.zeroValue120
theorem ze_121 : ZeroOf Tryz.prog 121 (.slice none 0 0) := Tryz.zeroValue121
theorem ze_122 : ZeroOf Tryz.prog 122 (.agg #[.slice none 0 0, .int .i64 0, .int .i64 0]) := Tryz.zeroValue122
theorem ze_123 : ZeroOf Tryz.prog 123 (.agg #[.slice none 0 0, .int .i64 0, .int .i64 0]) := Tryz.zeroValue123
theorem ze_124 : ZeroOf Tryz.prog 124 (.nilFunc) := Tryz.zeroValue124
theorem ze_126 : ZeroOf Tryz.prog 126 (.nilFunc) := Tryz.zeroValue126
theorem ze_127 : ZeroOf Tryz.prog 127 (.nilFunc) := Tryz.zeroValue127
theorem ze_128 : ZeroOf Tryz.prog 128 (.nilFunc) := Tryz.zeroValue128
theorem ze_129 : ZeroOf Tryz.prog 129 (.nilFunc) := Tryz.zeroValue129
theorem ze_130 : ZeroOf Tryz.prog 130 (.nilFunc) := Tryz.zeroValue130
theorem ze_131 : ZeroOf Tryz.prog 131 (.nilFunc) := Tryz.zeroValue131
theorem ze_132 : ZeroOf Tryz.prog 132 (.nilFunc) := Tryz.zeroValue132
theorem ze_134 : ZeroOf Tryz.prog 134 (.nilFunc) := Tryz.zeroValue134
theorem ze_135 : ZeroOf Tryz.prog 135 (.nilFunc) := Tryz.zeroValue135
theorem ze_136 : ZeroOf Tryz.prog 136 (.slice none 0 0) := Tryz.zeroValue136
theorem ze_138 : ZeroOf Tryz.prog 138 (.nilFunc) := Tryz.zeroValue138
theorem ze_139 : ZeroOf Tryz.prog 139 (.nilFunc) := Tryz.zeroValue139
theorem ze_140 : ZeroOf Tryz.prog 140 (.agg #[.bool false, .bool false, .bool false, .int .i64 0, .int .i64 0, .string ⟨#[]⟩]) := Tryz.zeroValue140
theorem ze_141 : ZeroOf Tryz.prog 141 (.agg #[.bool false, .bool false, .bool false, .int .i64 0, .int .i64 0, .string ⟨#[]⟩]) := Tryz.zeroValue141
theorem ze_142 : ZeroOf Tryz.prog 142 (.nilFunc) := Tryz.zeroValue142
theorem ze_143 : ZeroOf Tryz.prog 143 (.agg #[.int .i64 0, .int .i64 0, .bool false, .int .i64 0, .string ⟨#[]⟩, .int .u64 0, .int .u64 0, .int .u64 0, .int .u64 0, .int .u64 0, .int .u64 0]) := Tryz.zeroValue143
theorem ze_144 : ZeroOf Tryz.prog 144 (.agg #[.int .i64 0, .int .i64 0, .bool false, .int .i64 0, .string ⟨#[]⟩, .int .u64 0, .int .u64 0, .int .u64 0, .int .u64 0, .int .u64 0, .int .u64 0]) := Tryz.zeroValue144
theorem ze_145 : ZeroOf Tryz.prog 145 (.nilFunc) := Tryz.zeroValue145
theorem ze_146 : ZeroOf Tryz.prog 146 (.agg #[.int .i64 0, .int .i64 0, .int .i64 0, .int .i64 0, .int .i64 0, .slice none 0 0]) := Tryz.zeroValue146
theorem ze_147 : ZeroOf Tryz.prog 147 (.agg #[.int .i64 0, .int .i64 0, .int .i64 0, .int .i64 0, .int .i64 0, .slice none 0 0]) := Tryz.zeroValue147
theorem ze_148 : ZeroOf Tryz.prog 148 (.nilFunc) := Tryz.zeroValue148
theorem ze_149 : ZeroOf Tryz.prog 149 (.agg #[.bool false, .int .i64 0, .bool false, .string ⟨#[]⟩, .int .u64 0, .int .u64 0, .int .u64 0, .int .u64 0, .int .u64 0, .int .u64 0]) := Tryz.zeroValue149
theorem ze_150 : ZeroOf Tryz.prog 150 (.agg #[.bool false, .int .i64 0, .bool false, .string ⟨#[]⟩, .int .u64 0, .int .u64 0, .int .u64 0, .int .u64 0, .int .u64 0, .int .u64 0]) := Tryz.zeroValue150
theorem ze_152 : ZeroOf Tryz.prog 152 (.nilFunc) := Tryz.zeroValue152
theorem ze_153 : ZeroOf Tryz.prog 153 (.nilFunc) := Tryz.zeroValue153
theorem ze_154 : ZeroOf Tryz.prog 154 (.agg #[.string ⟨#[]⟩, .string ⟨#[]⟩, .string ⟨#[]⟩, .string ⟨#[]⟩, .string ⟨#[]⟩, .string ⟨#[]⟩, .string ⟨#[]⟩, .string ⟨#[]⟩, .string ⟨#[]⟩]) := Tryz.zeroValue154
theorem ze_155 : ZeroOf Tryz.prog 155 (.nilFunc) := Tryz.zeroValue155
theorem ze_156 : ZeroOf Tryz.prog 156 (.nilFunc) := Tryz.zeroValue156
theorem ze_157 : ZeroOf Tryz.prog 157 (.map none) := Tryz.zeroValue157
theorem ze_158 : ZeroOf Tryz.prog 158 (.nilFunc) := Tryz.zeroValue158
theorem ze_159 : ZeroOf Tryz.prog 159 (.slice none 0 0) := Tryz.zeroValue159
theorem ze_161 : ZeroOf Tryz.prog 161 (.nilFunc) := Tryz.zeroValue161
theorem ze_162 : ZeroOf Tryz.prog 162 (.nilFunc) := Tryz.zeroValue162
theorem ze_163 : ZeroOf Tryz.prog 163 (.nilFunc) := Tryz.zeroValue163
theorem ze_164 : ZeroOf Tryz.prog 164 (.nilFunc) := Tryz.zeroValue164
theorem ze_165 : ZeroOf Tryz.prog 165 (.nilFunc) := Tryz.zeroValue165
theorem ze_166 : ZeroOf Tryz.prog 166 (.nilFunc) := Tryz.zeroValue166
theorem ze_167 : ZeroOf Tryz.prog 167 (.nilFunc) := Tryz.zeroValue167
theorem ze_168 : ZeroOf Tryz.prog 168 (.pointer none) := Tryz.zeroValue168
theorem ze_169 : ZeroOf Tryz.prog 169 (.nilFunc) := Tryz.zeroValue169
theorem ze_171 : ZeroOf Tryz.prog 171 (.nilFunc) := Tryz.zeroValue171
theorem ze_172 : ZeroOf Tryz.prog 172 (.nilFunc) := Tryz.zeroValue172
theorem ze_173 : ZeroOf Tryz.prog 173 (.nilFunc) := Tryz.zeroValue173
theorem ze_175 : ZeroOf Tryz.prog 175 (.nilFunc) := Tryz.zeroValue175
theorem ze_176 : ZeroOf Tryz.prog 176 (.nilFunc) := Tryz.zeroValue176
theorem ze_178 : ZeroOf Tryz.prog 178 (.nilFunc) := Tryz.zeroValue178
theorem ze_179 : ZeroOf Tryz.prog 179 (.nilFunc) := Tryz.zeroValue179
theorem ze_180 : ZeroOf Tryz.prog 180 (.nilFunc) := Tryz.zeroValue180
theorem ze_181 : ZeroOf Tryz.prog 181 (.pointer none) := Tryz.zeroValue181
theorem ze_182 : ZeroOf Tryz.prog 182 (.nilFunc) := Tryz.zeroValue182
theorem ze_183 : ZeroOf Tryz.prog 183 (.pointer none) := Tryz.zeroValue183
theorem ze_184 : ZeroOf Tryz.prog 184 (.nilFunc) := Tryz.zeroValue184
theorem ze_185 : ZeroOf Tryz.prog 185 (.pointer none) := Tryz.zeroValue185
theorem ze_186 : ZeroOf Tryz.prog 186 (.nilFunc) := Tryz.zeroValue186
theorem ze_187 : ZeroOf Tryz.prog 187 (.nilFunc) := Tryz.zeroValue187
theorem ze_189 : ZeroOf Tryz.prog 189 (.nilFunc) := Tryz.zeroValue189
theorem ze_190 : ZeroOf Tryz.prog 190 (.nilFunc) := Tryz.zeroValue190
theorem ze_192 : ZeroOf Tryz.prog 192 (.nilFunc) := Tryz.zeroValue192
theorem ze_193 : ZeroOf Tryz.prog 193 (.nilFunc) := Tryz.zeroValue193
theorem ze_194 : ZeroOf Tryz.prog 194 (.nilFunc) := Tryz.zeroValue194
theorem ze_195 : ZeroOf Tryz.prog 195 (.nilFunc) := Tryz.zeroValue195
theorem ze_196 : ZeroOf Tryz.prog 196 (.nilFunc) := Tryz.zeroValue196
theorem ze_197 : ZeroOf Tryz.prog 197 (.nilFunc) := Tryz.zeroValue197
theorem ze_198 : ZeroOf Tryz.prog 198 (.agg #[.pointer none, .pointer none, .pointer none, .pointer none, .pointer none, .pointer none]) := Tryz.zeroValue198
theorem ze_200 : ZeroOf Tryz.prog 200 (.nilFunc) := Tryz.zeroValue200
theorem ze_202 : ZeroOf Tryz.prog 202 (.nilFunc) := Tryz.zeroValue202
theorem ze_203 : ZeroOf Tryz.prog 203 (.nilFunc) := Tryz.zeroValue203
theorem ze_204 : ZeroOf Tryz.prog 204 (.nilFunc) := Tryz.zeroValue204
theorem ze_205 : ZeroOf Tryz.prog 205 (.nilFunc) := Tryz.zeroValue205
theorem ze_206 : ZeroOf Tryz.prog 206 (.nilFunc) := Tryz.zeroValue206
theorem ze_207 : ZeroOf Tryz.prog 207 (.slice none 0 0) := Tryz.zeroValue207
theorem ze_209 : ZeroOf Tryz.prog 209 (.nilFunc) := Tryz.zeroValue209
theorem ze_210 : ZeroOf Tryz.prog 210 (.nilFunc) := Tryz.zeroValue210
theorem ze_211 : ZeroOf Tryz.prog 211 (.nilFunc) := Tryz.zeroValue211
theorem ze_212 : ZeroOf Tryz.prog 212 (.slice none 0 0) := Tryz.zeroValue212
theorem ze_213 : ZeroOf Tryz.prog 213 (.agg #[.int .i64 0, .int .i64 0, .slice none 0 0, .int .i64 0]) := Tryz.zeroValue213
theorem ze_214 : ZeroOf Tryz.prog 214 (.agg #[.int .i64 0, .int .i64 0, .slice none 0 0, .int .i64 0]) := Tryz.zeroValue214
theorem ze_215 : ZeroOf Tryz.prog 215 (.nilFunc) := Tryz.zeroValue215
theorem ze_216 : ZeroOf Tryz.prog 216 (.nilFunc) := Tryz.zeroValue216
theorem ze_217 : ZeroOf Tryz.prog 217 (.agg #[.bool false, .bool false, .bool false, .int .i64 0]) := Tryz.zeroValue217
theorem ze_219 : ZeroOf Tryz.prog 219 (.nilFunc) := Tryz.zeroValue219
theorem ze_220 : ZeroOf Tryz.prog 220 (.nilFunc) := Tryz.zeroValue220
theorem ze_221 : ZeroOf Tryz.prog 221 (.nilFunc) := Tryz.zeroValue221
theorem ze_222 : ZeroOf Tryz.prog 222 (.nilFunc) := Tryz.zeroValue222
theorem ze_223 : ZeroOf Tryz.prog 223 (.nilFunc) := Tryz.zeroValue223
theorem ze_224 : ZeroOf Tryz.prog 224 (.nilFunc) := Tryz.zeroValue224
theorem ze_230 : ZeroOf Tryz.prog 230 (.int .u32 0) := Tryz.zeroValue230
theorem ze_233 : ZeroOf Tryz.prog 233 (.nilFunc) := Tryz.zeroValue233
theorem ze_234 : ZeroOf Tryz.prog 234 (.pointer none) := Tryz.zeroValue234
theorem ze_239 : ZeroOf Tryz.prog 239 (.pointer none) := Tryz.zeroValue239
theorem fl_13 : PlacesOk Tryz.prog (13, [(0, 1), (1, 1)]) := .inl ⟨_, Tryz.underlying13, fun w => by simp⟩
theorem fl_31 : PlacesOk Tryz.prog (31, [(0, 1), (1, 1)]) := .inl ⟨_, Tryz.underlying31, fun w => by simp⟩
theorem fl_32 : PlacesOk Tryz.prog (32, [(0, 1), (1, 1)]) := .inl ⟨_, Tryz.underlying32, fun w => by simp⟩
theorem fl_35 : PlacesOk Tryz.prog (35, [(0, 2), (2, 1), (3, 1), (4, 1), (5, 1), (6, 1)]) := .inl ⟨_, Tryz.underlying35, fun w => by simp⟩
theorem fl_36 : PlacesOk Tryz.prog (36, [(0, 2), (2, 1), (3, 1), (4, 1), (5, 1), (6, 1)]) := .inl ⟨_, Tryz.underlying36, fun w => by simp⟩
theorem fl_39 : PlacesOk Tryz.prog (39, [(0, 1), (1, 1), (2, 1), (3, 1), (4, 1), (5, 1)]) := .inl ⟨_, Tryz.underlying39, fun w => by simp⟩
theorem fl_40 : PlacesOk Tryz.prog (40, [(0, 1), (1, 1), (2, 1), (3, 1), (4, 1), (5, 1)]) := .inl ⟨_, Tryz.underlying40, fun w => by simp⟩
theorem fl_42 : PlacesOk Tryz.prog (42, [(0, 7), (7, 1), (8, 1), (9, 1), (10, 1), (11, 6), (17, 1)]) := .inl ⟨_, Tryz.underlying42, fun w => by simp⟩
theorem fl_43 : PlacesOk Tryz.prog (43, [(0, 7), (7, 1), (8, 1), (9, 1), (10, 1), (11, 6), (17, 1)]) := .inl ⟨_, Tryz.underlying43, fun w => by simp⟩
theorem fl_44 : PlacesOk Tryz.prog (44, [(0, 1), (1, 1), (2, 18), (20, 1)]) := .inl ⟨_, Tryz.underlying44, fun w => by simp⟩
theorem fl_45 : PlacesOk Tryz.prog (45, [(0, 1), (1, 1), (2, 18), (20, 1)]) := .inl ⟨_, Tryz.underlying45, fun w => by simp⟩
theorem fl_47 : PlacesOk Tryz.prog (47, [(0, 1), (1, 1), (2, 1), (3, 1), (4, 1)]) := .inl ⟨_, Tryz.underlying47, fun w => by simp⟩
theorem fl_48 : PlacesOk Tryz.prog (48, [(0, 1), (1, 1), (2, 1), (3, 1), (4, 1)]) := .inl ⟨_, Tryz.underlying48, fun w => by simp⟩
theorem fl_54 : PlacesOk Tryz.prog (54, [(0, 1), (1, 1), (2, 1), (3, 1), (4, 1), (5, 6), (11, 1)]) := .inl ⟨_, Tryz.underlying54, fun w => by simp⟩
theorem fl_55 : PlacesOk Tryz.prog (55, [(0, 1), (1, 1), (2, 1), (3, 1), (4, 1), (5, 6), (11, 1)]) := .inl ⟨_, Tryz.underlying55, fun w => by simp⟩
theorem fl_59 : PlacesOk Tryz.prog (59, [(0, 1), (1, 1), (2, 1), (3, 1), (4, 1), (5, 6)]) := .inl ⟨_, Tryz.underlying59, fun w => by simp⟩
theorem fl_60 : PlacesOk Tryz.prog (60, [(0, 1), (1, 1), (2, 1), (3, 1), (4, 1), (5, 6)]) := .inl ⟨_, Tryz.underlying60, fun w => by simp⟩
theorem fl_64 : PlacesOk Tryz.prog (64, [(0, 1), (1, 5), (6, 1)]) := .inl ⟨_, Tryz.underlying64, fun w => by simp⟩
theorem fl_65 : PlacesOk Tryz.prog (65, [(0, 1), (1, 5), (6, 1)]) := .inl ⟨_, Tryz.underlying65, fun w => by simp⟩
theorem fl_79 : PlacesOk Tryz.prog (79, [(0, 1), (1, 5)]) := .inl ⟨_, Tryz.underlying79, fun w => by simp⟩
theorem fl_80 : PlacesOk Tryz.prog (80, [(0, 1), (1, 5)]) := .inl ⟨_, Tryz.underlying80, fun w => by simp⟩
theorem fl_86 : PlacesOk Tryz.prog (86, [(0, 1), (1, 1), (2, 1), (3, 1), (4, 1), (5, 1)]) := .inl ⟨_, Tryz.underlying86, fun w => by simp⟩
theorem fl_87 : PlacesOk Tryz.prog (87, [(0, 1), (1, 1), (2, 1), (3, 1), (4, 1), (5, 1)]) := .inl ⟨_, Tryz.underlying87, fun w => by simp⟩
theorem fl_89 : PlacesOk Tryz.prog (89, [(0, 1), (1, 11), (12, 6)]) := .inl ⟨_, Tryz.underlying89, fun w => by simp⟩
theorem fl_90 : PlacesOk Tryz.prog (90, [(0, 1), (1, 11), (12, 6)]) := .inl ⟨_, Tryz.underlying90, fun w => by simp⟩
theorem fl_92 : PlacesOk Tryz.prog (92, [(0, 1), (1, 1), (2, 1)]) := .inl ⟨_, Tryz.underlying92, fun w => by simp⟩
theorem fl_93 : PlacesOk Tryz.prog (93, [(0, 1), (1, 1), (2, 1)]) := .inl ⟨_, Tryz.underlying93, fun w => by simp⟩
theorem fl_99 : PlacesOk Tryz.prog (99, [(0, 1), (1, 1), (2, 1)]) := .inl ⟨_, Tryz.underlying99, fun w => by simp⟩
theorem fl_104 : PlacesOk Tryz.prog (104, [(0, 1), (1, 1), (2, 1)]) := .inl ⟨_, Tryz.underlying104, fun w => by simp⟩
theorem fl_105 : PlacesOk Tryz.prog (105, [(0, 1), (1, 1), (2, 1)]) := .inl ⟨_, Tryz.underlying105, fun w => by simp⟩
theorem fl_106 : PlacesOk Tryz.prog (106, [(0, 1), (1, 1), (2, 1), (3, 1)]) := .inl ⟨_, Tryz.underlying106, fun w => by simp⟩
theorem fl_107 : PlacesOk Tryz.prog (107, [(0, 1), (1, 1), (2, 1), (3, 1)]) := .inl ⟨_, Tryz.underlying107, fun w => by simp⟩
theorem fl_108 : PlacesOk Tryz.prog (108, [(0, 1), (1, 1), (2, 1), (3, 1), (4, 1), (5, 1), (6, 1), (7, 1), (8, 1), (9, 1), (10, 1), (11, 1), (12, 1), (13, 1), (14, 1), (15, 1), (16, 1), (17, 1), (18, 1), (19, 1), (20, 1), (21, 1), (22, 1), (23, 1), (24, 1), (25, 1), (26, 1), (27, 1), (28, 1), (29, 1), (30, 1), (31, 1)]) := .inr ⟨_, _, _, Tryz.underlying108, Tryz.sizeOf5, rfl⟩
theorem fl_109 : PlacesOk Tryz.prog (109, [(0, 4), (4, 1), (5, 32)]) := .inl ⟨_, Tryz.underlying109, fun w => by simp⟩
theorem fl_110 : PlacesOk Tryz.prog (110, [(0, 4), (4, 1), (5, 32)]) := .inl ⟨_, Tryz.underlying110, fun w => by simp⟩
theorem fl_119 : PlacesOk Tryz.prog (119, [(0, 1), (1, 1), (2, 1), (3, 1), (4, 1), (5, 1), (6, 1), (7, 1), (8, 1)]) := .inr ⟨_, _, _, Tryz.underlying119, Tryz.sizeOf81, rfl⟩
theorem fl_122 : PlacesOk Tryz.prog (122, [(0, 1), (1, 1), (2, 1)]) := .inl ⟨_, Tryz.underlying122, fun w => by simp⟩
theorem fl_123 : PlacesOk Tryz.prog (123, [(0, 1), (1, 1), (2, 1)]) := .inl ⟨_, Tryz.underlying123, fun w => by simp⟩
theorem fl_140 : PlacesOk Tryz.prog (140, [(0, 1), (1, 1), (2, 1), (3, 1), (4, 1), (5, 1)]) := .inl ⟨_, Tryz.underlying140, fun w => by simp⟩
theorem fl_141 : PlacesOk Tryz.prog (141, [(0, 1), (1, 1), (2, 1), (3, 1), (4, 1), (5, 1)]) := .inl ⟨_, Tryz.underlying141, fun w => by simp⟩
theorem fl_143 : PlacesOk Tryz.prog (143, [(0, 1), (1, 1), (2, 1), (3, 1), (4, 1), (5, 6)]) := .inl ⟨_, Tryz.underlying143, fun w => by simp⟩
theorem fl_144 : PlacesOk Tryz.prog (144, [(0, 1), (1, 1), (2, 1), (3, 1), (4, 1), (5, 6)]) := .inl ⟨_, Tryz.underlying144, fun w => by simp⟩
theorem fl_146 : PlacesOk Tryz.prog (146, [(0, 1), (1, 5)]) := .inl ⟨_, Tryz.underlying146, fun w => by simp⟩
theorem fl_147 : PlacesOk Tryz.prog (147, [(0, 1), (1, 5)]) := .inl ⟨_, Tryz.underlying147, fun w => by simp⟩
theorem fl_149 : PlacesOk Tryz.prog (149, [(0, 1), (1, 1), (2, 1), (3, 1), (4, 6)]) := .inl ⟨_, Tryz.underlying149, fun w => by simp⟩
theorem fl_150 : PlacesOk Tryz.prog (150, [(0, 1), (1, 1), (2, 1), (3, 1), (4, 6)]) := .inl ⟨_, Tryz.underlying150, fun w => by simp⟩
theorem fl_154 : PlacesOk Tryz.prog (154, [(0, 1), (1, 1), (2, 1), (3, 1), (4, 1), (5, 1), (6, 1), (7, 1), (8, 1)]) := .inr ⟨_, _, _, Tryz.underlying154, Tryz.sizeOf9, rfl⟩
theorem fl_198 : PlacesOk Tryz.prog (198, [(0, 1), (1, 1), (2, 1), (3, 1), (4, 1), (5, 1)]) := .inr ⟨_, _, _, Tryz.underlying198, Tryz.sizeOf181, rfl⟩
theorem fl_213 : PlacesOk Tryz.prog (213, [(0, 1), (1, 1), (2, 1), (3, 1)]) := .inl ⟨_, Tryz.underlying213, fun w => by simp⟩
theorem fl_214 : PlacesOk Tryz.prog (214, [(0, 1), (1, 1), (2, 1), (3, 1)]) := .inl ⟨_, Tryz.underlying214, fun w => by simp⟩
theorem fl_217 : PlacesOk Tryz.prog (217, [(0, 1), (1, 1), (2, 1), (3, 1)]) := .inl ⟨_, Tryz.underlying217, fun w => by simp⟩
theorem in_3 : InfOk Tryz.prog 3 1 8 := ⟨Tryz.t3, _, rfl, rfl, rfl, rfl, rfl, by decide⟩
theorem in_5 : InfOk Tryz.prog 5 1 1 := ⟨Tryz.t5, _, rfl, rfl, rfl, rfl, rfl, by decide⟩
theorem in_34 : InfOk Tryz.prog 34 1 24 := ⟨Tryz.t34, _, rfl, rfl, rfl, rfl, rfl, by decide⟩
theorem in_40 : InfOk Tryz.prog 40 6 48 := ⟨Tryz.t40, _, rfl, rfl, rfl, rfl, rfl, by decide⟩
theorem in_48 : InfOk Tryz.prog 48 5 56 := ⟨Tryz.t48, _, rfl, rfl, rfl, rfl, rfl, by decide⟩
theorem in_60 : InfOk Tryz.prog 60 11 104 := ⟨Tryz.t60, _, rfl, rfl, rfl, rfl, rfl, by decide⟩
theorem in_65 : InfOk Tryz.prog 65 7 72 := ⟨Tryz.t65, _, rfl, rfl, rfl, rfl, rfl, by decide⟩
theorem in_80 : InfOk Tryz.prog 80 6 64 := ⟨Tryz.t80, _, rfl, rfl, rfl, rfl, rfl, by decide⟩
theorem in_93 : InfOk Tryz.prog 93 3 24 := ⟨Tryz.t93, _, rfl, rfl, rfl, rfl, rfl, by decide⟩
theorem in_99 : InfOk Tryz.prog 99 3 24 := ⟨Tryz.t99, _, rfl, rfl, rfl, rfl, rfl, by decide⟩
theorem in_107 : InfOk Tryz.prog 107 4 16 := ⟨Tryz.t107, _, rfl, rfl, rfl, rfl, rfl, by decide⟩
theorem in_110 : InfOk Tryz.prog 110 37 56 := ⟨Tryz.t110, _, rfl, rfl, rfl, rfl, rfl, by decide⟩
theorem in_141 : InfOk Tryz.prog 141 6 40 := ⟨Tryz.t141, _, rfl, rfl, rfl, rfl, rfl, by decide⟩
theorem in_144 : InfOk Tryz.prog 144 11 96 := ⟨Tryz.t144, _, rfl, rfl, rfl, rfl, rfl, by decide⟩
theorem in_147 : InfOk Tryz.prog 147 6 64 := ⟨Tryz.t147, _, rfl, rfl, rfl, rfl, rfl, by decide⟩
theorem in_217 : InfOk Tryz.prog 217 4 16 := ⟨Tryz.t217, _, rfl, rfl, rfl, rfl, rfl, by decide⟩
def tab : Tab where
  offs := [(32, 0, 0), (32, 1, 1), (36, 0, 0), (36, 1, 2), (36, 2, 3), (36, 3, 4), (36, 4, 5), (36, 5, 6), (40, 0, 0), (40, 1, 1), (40, 2, 2), (40, 3, 3), (40, 4, 4), (40, 5, 5), (43, 0, 0), (43, 1, 7), (43, 2, 8), (43, 3, 9), (43, 4, 10), (43, 5, 11), (43, 6, 17), (45, 0, 0), (45, 1, 1), (45, 2, 2), (45, 3, 20), (48, 0, 0), (48, 1, 1), (48, 2, 2), (48, 3, 3), (48, 4, 4), (55, 0, 0), (55, 1, 1), (55, 2, 2), (55, 3, 3), (55, 4, 4), (55, 5, 5), (55, 6, 11), (60, 0, 0), (60, 1, 1), (60, 2, 2), (60, 3, 3), (60, 4, 4), (60, 5, 5), (65, 0, 0), (65, 1, 1), (65, 2, 6), (80, 0, 0), (80, 1, 1), (87, 0, 0), (87, 1, 1), (87, 2, 2), (87, 3, 3), (87, 4, 4), (87, 5, 5), (90, 0, 0), (90, 1, 1), (90, 2, 12), (93, 0, 0), (93, 1, 1), (93, 2, 2), (99, 0, 0), (99, 1, 1), (99, 2, 2), (105, 0, 0), (105, 1, 1), (105, 2, 2), (107, 0, 0), (107, 1, 1), (107, 2, 2), (107, 3, 3), (110, 0, 0), (110, 1, 4), (110, 2, 5), (123, 0, 0), (123, 1, 1), (123, 2, 2), (141, 0, 0), (141, 1, 1), (141, 2, 2), (141, 3, 3), (141, 4, 4), (141, 5, 5), (144, 5, 5), (147, 0, 0), (147, 1, 1), (150, 0, 0), (150, 1, 1), (150, 2, 2), (150, 3, 3), (150, 4, 4), (214, 0, 0), (214, 1, 1), (214, 2, 2), (214, 3, 3), (217, 0, 0), (217, 2, 2), (217, 3, 3)]
  tys := [(1, false, 1), (2, false, 1), (3, false, 1), (4, false, 1), (5, false, 1), (9, false, 1), (12, false, 1), (13, true, 2), (20, false, 1), (21, false, 1), (22, false, 1), (23, false, 1), (24, false, 1), (25, false, 1), (26, false, 1), (28, false, 1), (29, false, 1), (30, false, 1), (31, true, 2), (32, true, 2), (33, false, 1), (34, false, 1), (35, true, 7), (36, true, 7), (37, false, 1), (38, false, 1), (39, true, 6), (40, true, 6), (41, false, 1), (42, true, 18), (43, true, 18), (44, true, 21), (45, true, 21), (46, false, 1), (47, true, 5), (48, true, 5), (49, false, 1), (50, false, 1), (51, false, 1), (52, false, 1), (53, false, 1), (54, true, 12), (55, true, 12), (56, false, 1), (57, false, 1), (58, false, 1), (59, true, 11), (60, true, 11), (61, false, 1), (62, false, 1), (63, false, 1), (64, true, 7), (65, true, 7), (66, false, 1), (67, false, 1), (68, false, 1), (69, false, 1), (70, false, 1), (71, false, 1), (73, false, 1), (75, false, 1), (76, false, 1), (77, false, 1), (78, false, 1), (79, true, 6), (80, true, 6), (81, false, 1), (82, false, 1), (83, false, 1), (84, false, 1), (85, false, 1), (86, true, 6), (87, true, 6), (88, false, 1), (89, true, 18), (90, true, 18), (91, false, 1), (92, true, 3), (93, true, 3), (95, false, 1), (96, false, 1), (97, false, 1), (98, false, 1), (99, true, 3), (100, false, 1), (101, false, 1), (102, false, 1), (103, false, 1), (104, true, 3), (105, true, 3), (106, true, 4), (107, true, 4), (108, true, 32), (109, true, 37), (110, true, 37), (112, false, 1), (113, false, 1), (115, false, 1), (116, false, 1), (117, false, 1), (118, false, 1), (119, true, 9), (120, false, 1), (121, false, 1), (122, true, 3), (123, true, 3), (124, false, 1), (126, false, 1), (127, false, 1), (128, false, 1), (129, false, 1), (130, false, 1), (131, false, 1), (132, false, 1), (134, false, 1), (135, false, 1), (136, false, 1), (138, false, 1), (139, false, 1), (140, true, 6), (141, true, 6), (142, false, 1), (143, true, 11), (144, true, 11), (145, false, 1), (146, true, 6), (147, true, 6), (148, false, 1), (149, true, 10), (150, true, 10), (152, false, 1), (153, false, 1), (154, true, 9), (155, false, 1), (156, false, 1), (157, false, 1), (158, false, 1), (159, false, 1), (161, false, 1), (162, false, 1), (163, false, 1), (164, false, 1), (165, false, 1), (166, false, 1), (167, false, 1), (168, false, 1), (169, false, 1), (171, false, 1), (172, false, 1), (173, false, 1), (175, false, 1), (176, false, 1), (178, false, 1), (179, false, 1), (180, false, 1), (181, false, 1), (182, false, 1), (183, false, 1), (184, false, 1), (185, false, 1), (186, false, 1), (187, false, 1), (189, false, 1), (190, false, 1), (192, false, 1), (193, false, 1), (194, false, 1), (195, false, 1), (196, false, 1), (197, false, 1), (198, true, 6), (200, false, 1), (202, false, 1), (203, false, 1), (204, false, 1), (205, false, 1), (206, false, 1), (207, false, 1), (209, false, 1), (210, false, 1), (211, false, 1), (212, false, 1), (213, true, 4), (214, true, 4), (215, false, 1), (216, false, 1), (217, true, 4), (219, false, 1), (220, false, 1), (221, false, 1), (222, false, 1), (223, false, 1), (224, false, 1), (230, false, 1), (233, false, 1), (234, false, 1), (239, false, 1)]
  zeros := [(1, .nilFunc), (2, .int .i64 0), (3, .int .i64 0), (4, .bool false), (5, .int .u8 0), (9, .string ⟨#[]⟩), (12, .int .u64 0), (13, .agg #[.string ⟨#[]⟩, .int .u64 0]), (20, .nilIface), (21, .int .i32 0), (22, .slice none 0 0), (23, .pointer none), (24, .nilFunc), (25, .nilFunc), (26, .int .i64 0), (28, .pointer none), (29, .pointer none), (30, .slice none 0 0), (31, .agg #[.slice none 0 0, .int .i64 0]), (32, .agg #[.slice none 0 0, .int .i64 0]), (33, .slice none 0 0), (34, .slice none 0 0), (35, .agg #[.slice none 0 0, .int .i64 0, .int .i64 0, .int .i64 0, .slice none 0 0, .int .i64 0, .slice none 0 0]), (36, .agg #[.slice none 0 0, .int .i64 0, .int .i64 0, .int .i64 0, .slice none 0 0, .int .i64 0, .slice none 0 0]), (37, .slice none 0 0), (38, .int .u64 0), (39, .agg #[.int .u64 0, .int .u64 0, .int .u64 0, .int .u64 0, .int .u64 0, .int .u64 0]), (40, .agg #[.int .u64 0, .int .u64 0, .int .u64 0, .int .u64 0, .int .u64 0, .int .u64 0]), (41, .slice none 0 0), (42, .agg #[.slice none 0 0, .int .i64 0, .int .i64 0, .int .i64 0, .slice none 0 0, .int .i64 0, .slice none 0 0, .int .i64 0, .int .i64 0, .slice none 0 0, .int .i64 0, .int .u64 0, .int .u64 0, .int .u64 0, .int .u64 0, .int .u64 0, .int .u64 0, .slice none 0 0]), (43, .agg #[.slice none 0 0, .int .i64 0, .int .i64 0, .int .i64 0, .slice none 0 0, .int .i64 0, .slice none 0 0, .int .i64 0, .int .i64 0, .slice none 0 0, .int .i64 0, .int .u64 0, .int .u64 0, .int .u64 0, .int .u64 0, .int .u64 0, .int .u64 0, .slice none 0 0]), (44, .agg #[.pointer none, .pointer none, .slice none 0 0, .int .i64 0, .int .i64 0, .int .i64 0, .slice none 0 0, .int .i64 0, .slice none 0 0, .int .i64 0, .int .i64 0, .slice none 0 0, .int .i64 0, .int .u64 0, .int .u64 0, .int .u64 0, .int .u64 0, .int .u64 0, .int .u64 0, .slice none 0 0, .int .i64 0]), (45, .agg #[.pointer none, .pointer none, .slice none 0 0, .int .i64 0, .int .i64 0, .int .i64 0, .slice none 0 0, .int .i64 0, .slice none 0 0, .int .i64 0, .int .i64 0, .slice none 0 0, .int .i64 0, .int .u64 0, .int .u64 0, .int .u64 0, .int .u64 0, .int .u64 0, .int .u64 0, .slice none 0 0, .int .i64 0]), (46, .nilFunc), (47, .agg #[.int .i64 0, .int .i64 0, .int .i64 0, .int .i64 0, .slice none 0 0]), (48, .agg #[.int .i64 0, .int .i64 0, .int .i64 0, .int .i64 0, .slice none 0 0]), (49, .nilFunc), (50, .nilFunc), (51, .pointer none), (52, .pointer none), (53, .slice none 0 0), (54, .agg #[.pointer none, .pointer none, .pointer none, .int .i64 0, .int .i64 0, .int .u64 0, .int .u64 0, .int .u64 0, .int .u64 0, .int .u64 0, .int .u64 0, .slice none 0 0]), (55, .agg #[.pointer none, .pointer none, .pointer none, .int .i64 0, .int .i64 0, .int .u64 0, .int .u64 0, .int .u64 0, .int .u64 0, .int .u64 0, .int .u64 0, .slice none 0 0]), (56, .nilFunc), (57, .nilFunc), (58, .nilFunc), (59, .agg #[.int .i64 0, .int .i64 0, .bool false, .int .i64 0, .slice none 0 0, .int .u64 0, .int .u64 0, .int .u64 0, .int .u64 0, .int .u64 0, .int .u64 0]), (60, .agg #[.int .i64 0, .int .i64 0, .bool false, .int .i64 0, .slice none 0 0, .int .u64 0, .int .u64 0, .int .u64 0, .int .u64 0, .int .u64 0, .int .u64 0]), (61, .nilFunc), (62, .slice none 0 0), (63, .nilFunc), (64, .agg #[.int .i64 0, .int .i64 0, .int .i64 0, .int .i64 0, .int .i64 0, .slice none 0 0, .bool false]), (65, .agg #[.int .i64 0, .int .i64 0, .int .i64 0, .int .i64 0, .int .i64 0, .slice none 0 0, .bool false]), (66, .nilFunc), (67, .nilFunc), (68, .nilFunc), (69, .nilFunc), (70, .nilFunc), (71, .nilFunc), (73, .nilFunc), (75, .nilFunc), (76, .nilFunc), (77, .nilFunc), (78, .nilFunc), (79, .agg #[.int .i64 0, .int .i64 0, .int .i64 0, .int .i64 0, .int .i64 0, .slice none 0 0]), (80, .agg #[.int .i64 0, .int .i64 0, .int .i64 0, .int .i64 0, .int .i64 0, .slice none 0 0]), (81, .nilFunc), (82, .nilFunc), (83, .slice none 0 0), (84, .nilFunc), (85, .slice none 0 0), (86, .agg #[.pointer none, .int .i64 0, .int .i64 0, .slice none 0 0, .int .i64 0, .slice none 0 0]), (87, .agg #[.pointer none, .int .i64 0, .int .i64 0, .slice none 0 0, .int .i64 0, .slice none 0 0]), (88, .nilFunc), (89, .agg #[.bool false, .int .i64 0, .int .i64 0, .bool false, .int .i64 0, .slice none 0 0, .int .u64 0, .int .u64 0, .int .u64 0, .int .u64 0, .int .u64 0, .int .u64 0, .int .u64 0, .int .u64 0, .int .u64 0, .int .u64 0, .int .u64 0, .int .u64 0]), (90, .agg #[.bool false, .int .i64 0, .int .i64 0, .bool false, .int .i64 0, .slice none 0 0, .int .u64 0, .int .u64 0, .int .u64 0, .int .u64 0, .int .u64 0, .int .u64 0, .int .u64 0, .int .u64 0, .int .u64 0, .int .u64 0, .int .u64 0, .int .u64 0]), (91, .nilFunc), (92, .agg #[.int .i64 0, .int .i64 0, .int .i64 0]), (93, .agg #[.int .i64 0, .int .i64 0, .int .i64 0]), (95, .nilFunc), (96, .nilFunc), (97, .nilFunc), (98, .nilFunc), (99, .agg #[.int .i64 0, .int .i64 0, .int .i64 0]), (100, .nilFunc), (101, .nilFunc), (102, .slice none 0 0), (103, .map none), (104, .agg #[.slice none 0 0, .map none, .int .i64 0]), (105, .agg #[.slice none 0 0, .map none, .int .i64 0]), (106, .agg #[.bool false, .bool false, .bool false, .int .i64 0]), (107, .agg #[.bool false, .bool false, .bool false, .int .i64 0]), (108, .agg #[.int .u8 0, .int .u8 0, .int .u8 0, .int .u8 0, .int .u8 0, .int .u8 0, .int .u8 0, .int .u8 0, .int .u8 0, .int .u8 0, .int .u8 0, .int .u8 0, .int .u8 0, .int .u8 0, .int .u8 0, .int .u8 0, .int .u8 0, .int .u8 0, .int .u8 0, .int .u8 0, .int .u8 0, .int .u8 0, .int .u8 0, .int .u8 0, .int .u8 0, .int .u8 0, .int .u8 0, .int .u8 0, .int .u8 0, .int .u8 0, .int .u8 0, .int .u8 0]), (109, .agg #[.bool false, .bool false, .bool false, .int .i64 0, .int .i64 0, .int .u8 0, .int .u8 0, .int .u8 0, .int .u8 0, .int .u8 0, .int .u8 0, .int .u8 0, .int .u8 0, .int .u8 0, .int .u8 0, .int .u8 0, .int .u8 0, .int .u8 0, .int .u8 0, .int .u8 0, .int .u8 0, .int .u8 0, .int .u8 0, .int .u8 0, .int .u8 0, .int .u8 0, .int .u8 0, .int .u8 0, .int .u8 0, .int .u8 0, .int .u8 0, .int .u8 0, .int .u8 0, .int .u8 0, .int .u8 0, .int .u8 0, .int .u8 0]), (110, .agg #[.bool false, .bool false, .bool false, .int .i64 0, .int .i64 0, .int .u8 0, .int .u8 0, .int .u8 0, .int .u8 0, .int .u8 0, .int .u8 0, .int .u8 0, .int .u8 0, .int .u8 0, .int .u8 0, .int .u8 0, .int .u8 0, .int .u8 0, .int .u8 0, .int .u8 0, .int .u8 0, .int .u8 0, .int .u8 0, .int .u8 0, .int .u8 0, .int .u8 0, .int .u8 0, .int .u8 0, .int .u8 0, .int .u8 0, .int .u8 0, .int .u8 0, .int .u8 0, .int .u8 0, .int .u8 0, .int .u8 0, .int .u8 0]), (112, .nilFunc), (113, .nilFunc), (115, .nilFunc), (116, .nilFunc), (117, .nilFunc), (118, .nilFunc), (119, .agg #[.nilFunc, .nilFunc, .nilFunc, .nilFunc, .nilFunc, .nilFunc, .nilFunc, .nilFunc, .nilFunc]), (120, .nilFunc), (121, .slice none 0 0), (122, .agg #[.slice none 0 0, .int .i64 0, .int .i64 0]), (123, .agg #[.slice none 0 0, .int .i64 0, .int .i64 0]), (124, .nilFunc), (126, .nilFunc), (127, .nilFunc), (128, .nilFunc), (129, .nilFunc), (130, .nilFunc), (131, .nilFunc), (132, .nilFunc), (134, .nilFunc), (135, .nilFunc), (136, .slice none 0 0), (138, .nilFunc), (139, .nilFunc), (140, .agg #[.bool false, .bool false, .bool false, .int .i64 0, .int .i64 0, .string ⟨#[]⟩]), (141, .agg #[.bool false, .bool false, .bool false, .int .i64 0, .int .i64 0, .string ⟨#[]⟩]), (142, .nilFunc), (143, .agg #[.int .i64 0, .int .i64 0, .bool false, .int .i64 0, .string ⟨#[]⟩, .int .u64 0, .int .u64 0, .int .u64 0, .int .u64 0, .int .u64 0, .int .u64 0]), (144, .agg #[.int .i64 0, .int .i64 0, .bool false, .int .i64 0, .string ⟨#[]⟩, .int .u64 0, .int .u64 0, .int .u64 0, .int .u64 0, .int .u64 0, .int .u64 0]), (145, .nilFunc), (146, .agg #[.int .i64 0, .int .i64 0, .int .i64 0, .int .i64 0, .int .i64 0, .slice none 0 0]), (147, .agg #[.int .i64 0, .int .i64 0, .int .i64 0, .int .i64 0, .int .i64 0, .slice none 0 0]), (148, .nilFunc), (149, .agg #[.bool false, .int .i64 0, .bool false, .string ⟨#[]⟩, .int .u64 0, .int .u64 0, .int .u64 0, .int .u64 0, .int .u64 0, .int .u64 0]), (150, .agg #[.bool false, .int .i64 0, .bool false, .string ⟨#[]⟩, .int .u64 0, .int .u64 0, .int .u64 0, .int .u64 0, .int .u64 0, .int .u64 0]), (152, .nilFunc), (153, .nilFunc), (154, .agg #[.string ⟨#[]⟩, .string ⟨#[]⟩, .string ⟨#[]⟩, .string ⟨#[]⟩, .string ⟨#[]⟩, .string ⟨#[]⟩, .string ⟨#[]⟩, .string ⟨#[]⟩, .string ⟨#[]⟩]), (155, .nilFunc), (156, .nilFunc), (157, .map none), (158, .nilFunc), (159, .slice none 0 0), (161, .nilFunc), (162, .nilFunc), (163, .nilFunc), (164, .nilFunc), (165, .nilFunc), (166, .nilFunc), (167, .nilFunc), (168, .pointer none), (169, .nilFunc), (171, .nilFunc), (172, .nilFunc), (173, .nilFunc), (175, .nilFunc), (176, .nilFunc), (178, .nilFunc), (179, .nilFunc), (180, .nilFunc), (181, .pointer none), (182, .nilFunc), (183, .pointer none), (184, .nilFunc), (185, .pointer none), (186, .nilFunc), (187, .nilFunc), (189, .nilFunc), (190, .nilFunc), (192, .nilFunc), (193, .nilFunc), (194, .nilFunc), (195, .nilFunc), (196, .nilFunc), (197, .nilFunc), (198, .agg #[.pointer none, .pointer none, .pointer none, .pointer none, .pointer none, .pointer none]), (200, .nilFunc), (202, .nilFunc), (203, .nilFunc), (204, .nilFunc), (205, .nilFunc), (206, .nilFunc), (207, .slice none 0 0), (209, .nilFunc), (210, .nilFunc), (211, .nilFunc), (212, .slice none 0 0), (213, .agg #[.int .i64 0, .int .i64 0, .slice none 0 0, .int .i64 0]), (214, .agg #[.int .i64 0, .int .i64 0, .slice none 0 0, .int .i64 0]), (215, .nilFunc), (216, .nilFunc), (217, .agg #[.bool false, .bool false, .bool false, .int .i64 0]), (219, .nilFunc), (220, .nilFunc), (221, .nilFunc), (222, .nilFunc), (223, .nilFunc), (224, .nilFunc), (230, .int .u32 0), (233, .nilFunc), (234, .pointer none), (239, .pointer none)]
  sls := [(22, 48), (30, 141), (33, 99), (34, 5), (37, 147), (41, 144), (53, 60), (62, 65), (83, 3), (85, 93), (102, 110), (121, 80), (136, 34), (159, 40), (207, 107), (212, 217)]
  ars := [(108, 32, 5), (119, 9, 81), (154, 9, 9), (198, 6, 181)]
  ints := [(2, .i64), (3, .i64), (5, .u8), (12, .u64), (21, .i32), (26, .i64), (38, .u64), (230, .u32)]
  strs := [9]
  bools := [4]
  ptrs := [(23, 45), (28, 55), (29, 105), (51, 87), (52, 123), (168, 110), (181, 38), (183, 40), (185, 107), (234, 5)]
  flds := [(13, [(0, 1), (1, 1)]), (31, [(0, 1), (1, 1)]), (32, [(0, 1), (1, 1)]), (35, [(0, 2), (2, 1), (3, 1), (4, 1), (5, 1), (6, 1)]), (36, [(0, 2), (2, 1), (3, 1), (4, 1), (5, 1), (6, 1)]), (39, [(0, 1), (1, 1), (2, 1), (3, 1), (4, 1), (5, 1)]), (40, [(0, 1), (1, 1), (2, 1), (3, 1), (4, 1), (5, 1)]), (42, [(0, 7), (7, 1), (8, 1), (9, 1), (10, 1), (11, 6), (17, 1)]), (43, [(0, 7), (7, 1), (8, 1), (9, 1), (10, 1), (11, 6), (17, 1)]), (44, [(0, 1), (1, 1), (2, 18), (20, 1)]), (45, [(0, 1), (1, 1), (2, 18), (20, 1)]), (47, [(0, 1), (1, 1), (2, 1), (3, 1), (4, 1)]), (48, [(0, 1), (1, 1), (2, 1), (3, 1), (4, 1)]), (54, [(0, 1), (1, 1), (2, 1), (3, 1), (4, 1), (5, 6), (11, 1)]), (55, [(0, 1), (1, 1), (2, 1), (3, 1), (4, 1), (5, 6), (11, 1)]), (59, [(0, 1), (1, 1), (2, 1), (3, 1), (4, 1), (5, 6)]), (60, [(0, 1), (1, 1), (2, 1), (3, 1), (4, 1), (5, 6)]), (64, [(0, 1), (1, 5), (6, 1)]), (65, [(0, 1), (1, 5), (6, 1)]), (79, [(0, 1), (1, 5)]), (80, [(0, 1), (1, 5)]), (86, [(0, 1), (1, 1), (2, 1), (3, 1), (4, 1), (5, 1)]), (87, [(0, 1), (1, 1), (2, 1), (3, 1), (4, 1), (5, 1)]), (89, [(0, 1), (1, 11), (12, 6)]), (90, [(0, 1), (1, 11), (12, 6)]), (92, [(0, 1), (1, 1), (2, 1)]), (93, [(0, 1), (1, 1), (2, 1)]), (99, [(0, 1), (1, 1), (2, 1)]), (104, [(0, 1), (1, 1), (2, 1)]), (105, [(0, 1), (1, 1), (2, 1)]), (106, [(0, 1), (1, 1), (2, 1), (3, 1)]), (107, [(0, 1), (1, 1), (2, 1), (3, 1)]), (108, [(0, 1), (1, 1), (2, 1), (3, 1), (4, 1), (5, 1), (6, 1), (7, 1), (8, 1), (9, 1), (10, 1), (11, 1), (12, 1), (13, 1), (14, 1), (15, 1), (16, 1), (17, 1), (18, 1), (19, 1), (20, 1), (21, 1), (22, 1), (23, 1), (24, 1), (25, 1), (26, 1), (27, 1), (28, 1), (29, 1), (30, 1), (31, 1)]), (109, [(0, 4), (4, 1), (5, 32)]), (110, [(0, 4), (4, 1), (5, 32)]), (119, [(0, 1), (1, 1), (2, 1), (3, 1), (4, 1), (5, 1), (6, 1), (7, 1), (8, 1)]), (122, [(0, 1), (1, 1), (2, 1)]), (123, [(0, 1), (1, 1), (2, 1)]), (140, [(0, 1), (1, 1), (2, 1), (3, 1), (4, 1), (5, 1)]), (141, [(0, 1), (1, 1), (2, 1), (3, 1), (4, 1), (5, 1)]), (143, [(0, 1), (1, 1), (2, 1), (3, 1), (4, 1), (5, 6)]), (144, [(0, 1), (1, 1), (2, 1), (3, 1), (4, 1), (5, 6)]), (146, [(0, 1), (1, 5)]), (147, [(0, 1), (1, 5)]), (149, [(0, 1), (1, 1), (2, 1), (3, 1), (4, 6)]), (150, [(0, 1), (1, 1), (2, 1), (3, 1), (4, 6)]), (154, [(0, 1), (1, 1), (2, 1), (3, 1), (4, 1), (5, 1), (6, 1), (7, 1), (8, 1)]), (198, [(0, 1), (1, 1), (2, 1), (3, 1), (4, 1), (5, 1)]), (213, [(0, 1), (1, 1), (2, 1), (3, 1)]), (214, [(0, 1), (1, 1), (2, 1), (3, 1)]), (217, [(0, 1), (1, 1), (2, 1), (3, 1)])]
  infs := [(3, 1, 8), (5, 1, 1), (34, 1, 24), (40, 6, 48), (48, 5, 56), (60, 11, 104), (65, 7, 72), (80, 6, 64), (93, 3, 24), (99, 3, 24), (107, 4, 16), (110, 37, 56), (141, 6, 40), (144, 11, 96), (147, 6, 64), (217, 4, 16)]
theorem tab_ok : TabOk Tryz.prog tab where
  offs := List.forall_mem_cons.2 ⟨fo_32_0, List.forall_mem_cons.2 ⟨fo_32_1, List.forall_mem_cons.2 ⟨fo_36_0, List.forall_mem_cons.2 ⟨fo_36_1, List.forall_mem_cons.2 ⟨fo_36_2, List.forall_mem_cons.2 ⟨fo_36_3, List.forall_mem_cons.2 ⟨fo_36_4, List.forall_mem_cons.2 ⟨fo_36_5, List.forall_mem_cons.2 ⟨fo_40_0, List.forall_mem_cons.2 ⟨fo_40_1, List.forall_mem_cons.2 ⟨fo_40_2, List.forall_mem_cons.2 ⟨fo_40_3, List.forall_mem_cons.2 ⟨fo_40_4, List.forall_mem_cons.2 ⟨fo_40_5, List.forall_mem_cons.2 ⟨fo_43_0, List.forall_mem_cons.2 ⟨fo_43_1, List.forall_mem_cons.2 ⟨fo_43_2, List.forall_mem_cons.2 ⟨fo_43_3, List.forall_mem_cons.2 ⟨fo_43_4, List.forall_mem_cons.2 ⟨fo_43_5, List.forall_mem_cons.2 ⟨fo_43_6, List.forall_mem_cons.2 ⟨fo_45_0, List.forall_mem_cons.2 ⟨fo_45_1, List.forall_mem_cons.2 ⟨fo_45_2, List.forall_mem_cons.2 ⟨fo_45_3, List.forall_mem_cons.2 ⟨fo_48_0, List.forall_mem_cons.2 ⟨fo_48_1, List.forall_mem_cons.2 ⟨fo_48_2, List.forall_mem_cons.2 ⟨fo_48_3, List.forall_mem_cons.2 ⟨fo_48_4, List.forall_mem_cons.2 ⟨fo_55_0, List.forall_mem_cons.2 ⟨fo_55_1, List.forall_mem_cons.2 ⟨fo_55_2, List.forall_mem_cons.2 ⟨fo_55_3, List.forall_mem_cons.2 ⟨fo_55_4, List.forall_mem_cons.2 ⟨fo_55_5, List.forall_mem_cons.2 ⟨fo_55_6, List.forall_mem_cons.2 ⟨fo_60_0, List.forall_mem_cons.2 ⟨fo_60_1, List.forall_mem_cons.2 ⟨fo_60_2, List.forall_mem_cons.2 ⟨fo_60_3, List.forall_mem_cons.2 ⟨fo_60_4, List.forall_mem_cons.2 ⟨fo_60_5, List.forall_mem_cons.2 ⟨fo_65_0, List.forall_mem_cons.2 ⟨fo_65_1, List.forall_mem_cons.2 ⟨fo_65_2, List.forall_mem_cons.2 ⟨fo_80_0, List.forall_mem_cons.2 ⟨fo_80_1, List.forall_mem_cons.2 ⟨fo_87_0, List.forall_mem_cons.2 ⟨fo_87_1, List.forall_mem_cons.2 ⟨fo_87_2, List.forall_mem_cons.2 ⟨fo_87_3, List.forall_mem_cons.2 ⟨fo_87_4, List.forall_mem_cons.2 ⟨fo_87_5, List.forall_mem_cons.2 ⟨fo_90_0, List.forall_mem_cons.2 ⟨fo_90_1, List.forall_mem_cons.2 ⟨fo_90_2, List.forall_mem_cons.2 ⟨fo_93_0, List.forall_mem_cons.2 ⟨fo_93_1, List.forall_mem_cons.2 ⟨fo_93_2, List.forall_mem_cons.2 ⟨fo_99_0, List.forall_mem_cons.2 ⟨fo_99_1, List.forall_mem_cons.2 ⟨fo_99_2, List.forall_mem_cons.2 ⟨fo_105_0, List.forall_mem_cons.2 ⟨fo_105_1, List.forall_mem_cons.2 ⟨fo_105_2, List.forall_mem_cons.2 ⟨fo_107_0, List.forall_mem_cons.2 ⟨fo_107_1, List.forall_mem_cons.2 ⟨fo_107_2, List.forall_mem_cons.2 ⟨fo_107_3, List.forall_mem_cons.2 ⟨fo_110_0, List.forall_mem_cons.2 ⟨fo_110_1, List.forall_mem_cons.2 ⟨fo_110_2, List.forall_mem_cons.2 ⟨fo_123_0, List.forall_mem_cons.2 ⟨fo_123_1, List.forall_mem_cons.2 ⟨fo_123_2, List.forall_mem_cons.2 ⟨fo_141_0, List.forall_mem_cons.2 ⟨fo_141_1, List.forall_mem_cons.2 ⟨fo_141_2, List.forall_mem_cons.2 ⟨fo_141_3, List.forall_mem_cons.2 ⟨fo_141_4, List.forall_mem_cons.2 ⟨fo_141_5, List.forall_mem_cons.2 ⟨fo_144_5, List.forall_mem_cons.2 ⟨fo_147_0, List.forall_mem_cons.2 ⟨fo_147_1, List.forall_mem_cons.2 ⟨fo_150_0, List.forall_mem_cons.2 ⟨fo_150_1, List.forall_mem_cons.2 ⟨fo_150_2, List.forall_mem_cons.2 ⟨fo_150_3, List.forall_mem_cons.2 ⟨fo_150_4, List.forall_mem_cons.2 ⟨fo_214_0, List.forall_mem_cons.2 ⟨fo_214_1, List.forall_mem_cons.2 ⟨fo_214_2, List.forall_mem_cons.2 ⟨fo_214_3, List.forall_mem_cons.2 ⟨fo_217_0, List.forall_mem_cons.2 ⟨fo_217_2, List.forall_mem_cons.2 ⟨fo_217_3, fun _ h => nomatch h⟩⟩⟩⟩⟩⟩⟩⟩⟩⟩⟩⟩⟩⟩⟩⟩⟩⟩⟩⟩⟩⟩⟩⟩⟩⟩⟩⟩⟩⟩⟩⟩⟩⟩⟩⟩⟩⟩⟩⟩⟩⟩⟩⟩⟩⟩⟩⟩⟩⟩⟩⟩⟩⟩⟩⟩⟩⟩⟩⟩⟩⟩⟩⟩⟩⟩⟩⟩⟩⟩⟩⟩⟩⟩⟩⟩⟩⟩⟩⟩⟩⟩⟩⟩⟩⟩⟩⟩⟩⟩⟩⟩⟩⟩⟩⟩⟩
  tys := List.forall_mem_cons.2 ⟨ty_1, List.forall_mem_cons.2 ⟨ty_2, List.forall_mem_cons.2 ⟨ty_3, List.forall_mem_cons.2 ⟨ty_4, List.forall_mem_cons.2 ⟨ty_5, List.forall_mem_cons.2 ⟨ty_9, List.forall_mem_cons.2 ⟨ty_12, List.forall_mem_cons.2 ⟨ty_13, List.forall_mem_cons.2 ⟨ty_20, List.forall_mem_cons.2 ⟨ty_21, List.forall_mem_cons.2 ⟨ty_22, List.forall_mem_cons.2 ⟨ty_23, List.forall_mem_cons.2 ⟨ty_24, List.forall_mem_cons.2 ⟨ty_25, List.forall_mem_cons.2 ⟨ty_26, List.forall_mem_cons.2 ⟨ty_28, List.forall_mem_cons.2 ⟨ty_29, List.forall_mem_cons.2 ⟨ty_30, List.forall_mem_cons.2 ⟨ty_31, List.forall_mem_cons.2 ⟨ty_32, List.forall_mem_cons.2 ⟨ty_33, List.forall_mem_cons.2 ⟨ty_34, List.forall_mem_cons.2 ⟨ty_35, List.forall_mem_cons.2 ⟨ty_36, List.forall_mem_cons.2 ⟨ty_37, List.forall_mem_cons.2 ⟨ty_38, List.forall_mem_cons.2 ⟨ty_39, List.forall_mem_cons.2 ⟨ty_40, List.forall_mem_cons.2 ⟨ty_41, List.forall_mem_cons.2 ⟨ty_42, List.forall_mem_cons.2 ⟨ty_43, List.forall_mem_cons.2 ⟨ty_44, List.forall_mem_cons.2 ⟨ty_45, List.forall_mem_cons.2 ⟨ty_46, List.forall_mem_cons.2 ⟨ty_47, List.forall_mem_cons.2 ⟨ty_48, List.forall_mem_cons.2 ⟨ty_49, List.forall_mem_cons.2 ⟨ty_50, List.forall_mem_cons.2 ⟨ty_51, List.forall_mem_cons.2 ⟨ty_52, List.forall_mem_cons.2 ⟨ty_53, List.forall_mem_cons.2 ⟨ty_54, List.forall_mem_cons.2 ⟨ty_55, List.forall_mem_cons.2 ⟨ty_56, List.forall_mem_cons.2 ⟨ty_57, List.forall_mem_cons.2 ⟨ty_58, List.forall_mem_cons.2 ⟨ty_59, List.forall_mem_cons.2 ⟨ty_60, List.forall_mem_cons.2 ⟨ty_61, List.forall_mem_cons.2 ⟨ty_62, List.forall_mem_cons.2 ⟨ty_63, List.forall_mem_cons.2 ⟨ty_64, List.forall_mem_cons.2 ⟨ty_65, List.forall_mem_cons.2 ⟨ty_66, List.forall_mem_cons.2 ⟨ty_67, List.forall_mem_cons.2 ⟨ty_68, List.forall_mem_cons.2 ⟨ty_69, List.forall_mem_cons.2 ⟨ty_70, List.forall_mem_cons.2 ⟨ty_71, List.forall_mem_cons.2 ⟨ty_73, List.forall_mem_cons.2 ⟨ty_75, List.forall_mem_cons.2 ⟨ty_76, List.forall_mem_cons.2 ⟨ty_77, List.forall_mem_cons.2 ⟨ty_78, List.forall_mem_cons.2 ⟨ty_79, List.forall_mem_cons.2 ⟨ty_80, List.forall_mem_cons.2 ⟨ty_81, List.forall_mem_cons.2 ⟨ty_82, List.forall_mem_cons.2 ⟨ty_83, List.forall_mem_cons.2 ⟨ty_84, List.forall_mem_cons.2 ⟨ty_85, List.forall_mem_cons.2 ⟨ty_86, List.forall_mem_cons.2 ⟨ty_87, List.forall_mem_cons.2 ⟨ty_88, List.forall_mem_cons.2 ⟨ty_89, List.forall_mem_cons.2 ⟨ty_90, List.forall_mem_cons.2 ⟨ty_91, List.forall_mem_cons.2 ⟨ty_92, List.forall_mem_cons.2 ⟨ty_93, List.forall_mem_cons.2 ⟨ty_95, List.forall_mem_cons.2 ⟨ty_96, List.forall_mem_cons.2 ⟨ty_97, List.forall_mem_cons.2 ⟨ty_98, List.forall_mem_cons.2 ⟨ty_99, List.forall_mem_cons.2 ⟨ty_100, List.forall_mem_cons.2 ⟨ty_101, List.forall_mem_cons.2 ⟨ty_102, List.forall_mem_cons.2 ⟨ty_103, List.forall_mem_cons.2 ⟨ty_104, List.forall_mem_cons.2 ⟨ty_105, List.forall_mem_cons.2 ⟨ty_106, List.forall_mem_cons.2 ⟨ty_107, List.forall_mem_cons.2 ⟨ty_108, List.forall_mem_cons.2 ⟨ty_109, List.forall_mem_cons.2 ⟨ty_110, List.forall_mem_cons.2 ⟨ty_112, List.forall_mem_cons.2 ⟨ty_113, List.forall_mem_cons.2 ⟨ty_115, List.forall_mem_cons.2 ⟨ty_116, List.forall_mem_cons.2 ⟨ty_117, List.forall_mem_cons.2 ⟨ty_118, List.forall_mem_cons.2 ⟨ty_119, List.forall_mem_cons.2 ⟨ty_120, List.forall_mem_cons.2 ⟨ty_121, List.forall_mem_cons.2 ⟨ty_122, List.forall_mem_cons.2 ⟨ty_123, List.forall_mem_cons.2 ⟨ty_124, List.forall_mem_cons.2 ⟨ty_126, List.forall_mem_cons.2 ⟨ty_127, List.forall_mem_cons.2 ⟨ty_128, List.forall_mem_cons.2 ⟨ty_129, List.forall_mem_cons.2 ⟨ty_130, List.forall_mem_cons.2 ⟨ty_131, List.forall_mem_cons.2 ⟨ty_132, List.forall_mem_cons.2 ⟨ty_134, List.forall_mem_cons.2 ⟨ty_135, List.forall_mem_cons.2 ⟨ty_136, List.forall_mem_cons.2 ⟨ty_138, List.forall_mem_cons.2 ⟨ty_139, List.forall_mem_cons.2 ⟨ty_140, List.forall_mem_cons.2 ⟨ty_141, List.forall_mem_cons.2 ⟨ty_142, List.forall_mem_cons.2 ⟨ty_143, List.forall_mem_cons.2 ⟨ty_144, List.forall_mem_cons.2 ⟨ty_145, List.forall_mem_cons.2 ⟨ty_146, List.forall_mem_cons.2 ⟨ty_147, List.forall_mem_cons.2 ⟨ty_148, List.forall_mem_cons.2 ⟨ty_149, List.forall_mem_cons.2 ⟨ty_150, List.forall_mem_cons.2 ⟨ty_152, List.forall_mem_cons.2 ⟨ty_153, List.forall_mem_cons.2 ⟨ty_154, List.forall_mem_cons.2 ⟨ty_155, List.forall_mem_cons.2 ⟨ty_156, List.forall_mem_cons.2 ⟨ty_157, List.forall_mem_cons.2 ⟨ty_158, List.forall_mem_cons.2 ⟨ty_159, List.forall_mem_cons.2 ⟨ty_161, List.forall_mem_cons.2 ⟨ty_162, List.forall_mem_cons.2 ⟨ty_163, List.forall_mem_cons.2 ⟨ty_164, List.forall_mem_cons.2 ⟨ty_165, List.forall_mem_cons.2 ⟨ty_166, List.forall_mem_cons.2 ⟨ty_167, List.forall_mem_cons.2 ⟨ty_168, List.forall_mem_cons.2 ⟨ty_169, List.forall_mem_cons.2 ⟨ty_171, List.forall_mem_cons.2 ⟨ty_172, List.forall_mem_cons.2 ⟨ty_173, List.forall_mem_cons.2 ⟨ty_175, List.forall_mem_cons.2 ⟨ty_176, List.forall_mem_cons.2 ⟨ty_178, List.forall_mem_cons.2 ⟨ty_179, List.forall_mem_cons.2 ⟨ty_180, List.forall_mem_cons.2 ⟨ty_181, List.forall_mem_cons.2 ⟨ty_182, List.forall_mem_cons.2 ⟨ty_183, List.forall_mem_cons.2 ⟨ty_184, List.forall_mem_cons.2 ⟨ty_185, List.forall_mem_cons.2 ⟨ty_186, List.forall_mem_cons.2 ⟨ty_187, List.forall_mem_cons.2 ⟨ty_189, List.forall_mem_cons.2 ⟨ty_190, List.forall_mem_cons.2 ⟨ty_192, List.forall_mem_cons.2 ⟨ty_193, List.forall_mem_cons.2 ⟨ty_194, List.forall_mem_cons.2 ⟨ty_195, List.forall_mem_cons.2 ⟨ty_196, List.forall_mem_cons.2 ⟨ty_197, List.forall_mem_cons.2 ⟨ty_198, List.forall_mem_cons.2 ⟨ty_200, List.forall_mem_cons.2 ⟨ty_202, List.forall_mem_cons.2 ⟨ty_203, List.forall_mem_cons.2 ⟨ty_204, List.forall_mem_cons.2 ⟨ty_205, List.forall_mem_cons.2 ⟨ty_206, List.forall_mem_cons.2 ⟨ty_207, List.forall_mem_cons.2 ⟨ty_209, List.forall_mem_cons.2 ⟨ty_210, List.forall_mem_cons.2 ⟨ty_211, List.forall_mem_cons.2 ⟨ty_212, List.forall_mem_cons.2 ⟨ty_213, List.forall_mem_cons.2 ⟨ty_214, List.forall_mem_cons.2 ⟨ty_215, List.forall_mem_cons.2 ⟨ty_216, List.forall_mem_cons.2 ⟨ty_217, List.forall_mem_cons.2 ⟨ty_219, List.forall_mem_cons.2 ⟨ty_220, List.forall_mem_cons.2 ⟨ty_221, List.forall_mem_cons.2 ⟨ty_222, List.forall_mem_cons.2 ⟨ty_223, List.forall_mem_cons.2 ⟨ty_224, List.forall_mem_cons.2 ⟨ty_230, List.forall_mem_cons.2 ⟨ty_233, List.forall_mem_cons.2 ⟨ty_234, List.forall_mem_cons.2 ⟨ty_239, fun _ h => nomatch h⟩⟩⟩⟩⟩⟩⟩⟩⟩⟩⟩⟩⟩⟩⟩⟩⟩⟩⟩⟩⟩⟩⟩⟩⟩⟩⟩⟩⟩⟩⟩⟩⟩⟩⟩⟩⟩⟩⟩⟩⟩⟩⟩⟩⟩⟩⟩⟩⟩⟩⟩⟩⟩⟩⟩⟩⟩⟩⟩⟩⟩⟩⟩⟩⟩⟩⟩⟩⟩⟩⟩⟩⟩⟩⟩⟩⟩⟩⟩⟩⟩⟩⟩⟩⟩⟩⟩⟩⟩⟩⟩⟩⟩⟩⟩⟩⟩⟩⟩⟩⟩⟩⟩⟩⟩⟩⟩⟩⟩⟩⟩⟩⟩⟩⟩⟩⟩⟩⟩⟩⟩⟩⟩⟩⟩⟩⟩⟩⟩⟩⟩⟩⟩⟩⟩⟩⟩⟩⟩⟩⟩⟩⟩⟩⟩⟩⟩⟩⟩⟩⟩⟩⟩⟩⟩⟩⟩⟩⟩⟩⟩⟩⟩⟩⟩⟩⟩⟩⟩⟩⟩⟩⟩⟩⟩⟩⟩⟩⟩⟩⟩⟩⟩⟩⟩⟩⟩⟩⟩⟩⟩⟩⟩⟩⟩⟩⟩
  zeros := List.forall_mem_cons.2 ⟨ze_1, List.forall_mem_cons.2 ⟨ze_2, List.forall_mem_cons.2 ⟨ze_3, List.forall_mem_cons.2 ⟨ze_4, List.forall_mem_cons.2 ⟨ze_5, List.forall_mem_cons.2 ⟨ze_9, List.forall_mem_cons.2 ⟨ze_12, List.forall_mem_cons.2 ⟨ze_13, List.forall_mem_cons.2 ⟨ze_20, List.forall_mem_cons.2 ⟨ze_21, List.forall_mem_cons.2 ⟨ze_22, List.forall_mem_cons.2 ⟨ze_23, List.forall_mem_cons.2 ⟨ze_24, List.forall_mem_cons.2 ⟨ze_25, List.forall_mem_cons.2 ⟨ze_26, List.forall_mem_cons.2 ⟨ze_28, List.forall_mem_cons.2 ⟨ze_29, List.forall_mem_cons.2 ⟨ze_30, List.forall_mem_cons.2 ⟨ze_31, List.forall_mem_cons.2 ⟨ze_32, List.forall_mem_cons.2 ⟨ze_33, List.forall_mem_cons.2 ⟨ze_34, List.forall_mem_cons.2 ⟨ze_35, List.forall_mem_cons.2 ⟨ze_36, List.forall_mem_cons.2 ⟨ze_37, List.forall_mem_cons.2 ⟨ze_38, List.forall_mem_cons.2 ⟨ze_39, List.forall_mem_cons.2 ⟨ze_40, List.forall_mem_cons.2 ⟨ze_41, List.forall_mem_cons.2 ⟨ze_42, List.forall_mem_cons.2 ⟨ze_43, List.forall_mem_cons.2 ⟨ze_44, List.forall_mem_cons.2 ⟨ze_45, List.forall_mem_cons.2 ⟨ze_46, List.forall_mem_cons.2 ⟨ze_47, List.forall_mem_cons.2 ⟨ze_48, List.forall_mem_cons.2 ⟨ze_49, List.forall_mem_cons.2 ⟨ze_50, List.forall_mem_cons.2 ⟨ze_51, List.forall_mem_cons.2 ⟨ze_52, List.forall_mem_cons.2 ⟨ze_53, List.forall_mem_cons.2 ⟨ze_54, List.forall_mem_cons.2 ⟨ze_55, List.forall_mem_cons.2 ⟨ze_56, List.forall_mem_cons.2 ⟨ze_57, List.forall_mem_cons.2 ⟨ze_58, List.forall_mem_cons.2 ⟨ze_59, List.forall_mem_cons.2 ⟨ze_60, List.forall_mem_cons.2 ⟨ze_61, List.forall_mem_cons.2 ⟨ze_62, List.forall_mem_cons.2 ⟨ze_63, List.forall_mem_cons.2 ⟨ze_64, List.forall_mem_cons.2 ⟨ze_65, List.forall_mem_cons.2 ⟨ze_66, List.forall_mem_cons.2 ⟨ze_67, List.forall_mem_cons.2 ⟨ze_68, List.forall_mem_cons.2 ⟨ze_69, List.forall_mem_cons.2 ⟨ze_70, List.forall_mem_cons.2 ⟨ze_71, List.forall_mem_cons.2 ⟨ze_73, List.forall_mem_cons.2 ⟨ze_75, List.forall_mem_cons.2 ⟨ze_76, List.forall_mem_cons.2 ⟨ze_77, List.forall_mem_cons.2 ⟨ze_78, List.forall_mem_cons.2 ⟨ze_79, List.forall_mem_cons.2 ⟨ze_80, List.forall_mem_cons.2 ⟨ze_81, List.forall_mem_cons.2 ⟨ze_82, List.forall_mem_cons.2 ⟨ze_83, List.forall_mem_cons.2 ⟨ze_84, List.forall_mem_cons.2 ⟨ze_85, List.forall_mem_cons.2 ⟨ze_86, List.forall_mem_cons.2 ⟨ze_87, List.forall_mem_cons.2 ⟨ze_88, List.forall_mem_cons.2 ⟨ze_89, List.forall_mem_cons.2 ⟨ze_90, List.forall_mem_cons.2 ⟨ze_91, List.forall_mem_cons.2 ⟨ze_92, List.forall_mem_cons.2 ⟨ze_93, List.forall_mem_cons.2 ⟨ze_95, List.forall_mem_cons.2 ⟨ze_96, List.forall_mem_cons.2 ⟨ze_97, List.forall_mem_cons.2 ⟨ze_98, List.forall_mem_cons.2 ⟨ze_99, List.forall_mem_cons.2 ⟨ze_100, List.forall_mem_cons.2 ⟨ze_101, List.forall_mem_cons.2 ⟨ze_102, List.forall_mem_cons.2 ⟨ze_103, List.forall_mem_cons.2 ⟨ze_104, List.forall_mem_cons.2 ⟨ze_105, List.forall_mem_cons.2 ⟨ze_106, List.forall_mem_cons.2 ⟨ze_107, List.forall_mem_cons.2 ⟨ze_108, List.forall_mem_cons.2 ⟨ze_109, List.forall_mem_cons.2 ⟨ze_110, List.forall_mem_cons.2 ⟨ze_112, List.forall_mem_cons.2 ⟨ze_113, List.forall_mem_cons.2 ⟨ze_115, List.forall_mem_cons.2 ⟨ze_116, List.forall_mem_cons.2 ⟨ze_117, List.forall_mem_cons.2 ⟨ze_118, List.forall_mem_cons.2 ⟨ze_119, List.forall_mem_cons.2 ⟨ze_120, List.forall_mem_cons.2 ⟨ze_121, List.forall_mem_cons.2 ⟨ze_122, List.forall_mem_cons.2 ⟨ze_123, List.forall_mem_cons.2 ⟨ze_124, List.forall_mem_cons.2 ⟨ze_126, List.forall_mem_cons.2 ⟨ze_127, List.forall_mem_cons.2 ⟨ze_128, List.forall_mem_cons.2 ⟨ze_129, List.forall_mem_cons.2 ⟨ze_130, List.forall_mem_cons.2 ⟨ze_131, List.forall_mem_cons.2 ⟨ze_132, List.forall_mem_cons.2 ⟨ze_134, List.forall_mem_cons.2 ⟨ze_135, List.forall_mem_cons.2 ⟨ze_136, List.forall_mem_cons.2 ⟨ze_138, List.forall_mem_cons.2 ⟨ze_139, List.forall_mem_cons.2 ⟨ze_140, List.forall_mem_cons.2 ⟨ze_141, List.forall_mem_cons.2 ⟨ze_142, List.forall_mem_cons.2 ⟨ze_143, List.forall_mem_cons.2 ⟨ze_144, List.forall_mem_cons.2 ⟨ze_145, List.forall_mem_cons.2 ⟨ze_146, List.forall_mem_cons.2 ⟨ze_147, List.forall_mem_cons.2 ⟨ze_148, List.forall_mem_cons.2 ⟨ze_149, List.forall_mem_cons.2 ⟨ze_150, List.forall_mem_cons.2 ⟨ze_152, List.forall_mem_cons.2 ⟨ze_153, List.forall_mem_cons.2 ⟨ze_154, List.forall_mem_cons.2 ⟨ze_155, List.forall_mem_cons.2 ⟨ze_156, List.forall_mem_cons.2 ⟨ze_157, List.forall_mem_cons.2 ⟨ze_158, List.forall_mem_cons.2 ⟨ze_159, List.forall_mem_cons.2 ⟨ze_161, List.forall_mem_cons.2 ⟨ze_162, List.forall_mem_cons.2 ⟨ze_163, List.forall_mem_cons.2 ⟨ze_164, List.forall_mem_cons.2 ⟨ze_165, List.forall_mem_cons.2 ⟨ze_166, List.forall_mem_cons.2 ⟨ze_167, List.forall_mem_cons.2 ⟨ze_168, List.forall_mem_cons.2 ⟨ze_169, List.forall_mem_cons.2 ⟨ze_171, List.forall_mem_cons.2 ⟨ze_172, List.forall_mem_cons.2 ⟨ze_173, List.forall_mem_cons.2 ⟨ze_175, List.forall_mem_cons.2 ⟨ze_176, List.forall_mem_cons.2 ⟨ze_178, List.forall_mem_cons.2 ⟨ze_179, List.forall_mem_cons.2 ⟨ze_180, List.forall_mem_cons.2 ⟨ze_181, List.forall_mem_cons.2 ⟨ze_182, List.forall_mem_cons.2 ⟨ze_183, List.forall_mem_cons.2 ⟨ze_184, List.forall_mem_cons.2 ⟨ze_185, List.forall_mem_cons.2 ⟨ze_186, List.forall_mem_cons.2 ⟨ze_187, List.forall_mem_cons.2 ⟨ze_189, List.forall_mem_cons.2 ⟨ze_190, List.forall_mem_cons.2 ⟨ze_192, List.forall_mem_cons.2 ⟨ze_193, List.forall_mem_cons.2 ⟨ze_194, List.forall_mem_cons.2 ⟨ze_195, List.forall_mem_cons.2 ⟨ze_196, List.forall_mem_cons.2 ⟨ze_197, List.forall_mem_cons.2 ⟨ze_198, List.forall_mem_cons.2 ⟨ze_200, List.forall_mem_cons.2 ⟨ze_202, List.forall_mem_cons.2 ⟨ze_203, List.forall_mem_cons.2 ⟨ze_204, List.forall_mem_cons.2 ⟨ze_205, List.forall_mem_cons.2 ⟨ze_206, List.forall_mem_cons.2 ⟨ze_207, List.forall_mem_cons.2 ⟨ze_209, List.forall_mem_cons.2 ⟨ze_210, List.forall_mem_cons.2 ⟨ze_211, List.forall_mem_cons.2 ⟨ze_212, List.forall_mem_cons.2 ⟨ze_213, List.forall_mem_cons.2 ⟨ze_214, List.forall_mem_cons.2 ⟨ze_215, List.forall_mem_cons.2 ⟨ze_216, List.forall_mem_cons.2 ⟨ze_217, List.forall_mem_cons.2 ⟨ze_219, List.forall_mem_cons.2 ⟨ze_220, List.forall_mem_cons.2 ⟨ze_221, List.forall_mem_cons.2 ⟨ze_222, List.forall_mem_cons.2 ⟨ze_223, List.forall_mem_cons.2 ⟨ze_224, List.forall_mem_cons.2 ⟨ze_230, List.forall_mem_cons.2 ⟨ze_233, List.forall_mem_cons.2 ⟨ze_234, List.forall_mem_cons.2 ⟨ze_239, fun _ h => nomatch h⟩⟩⟩⟩⟩⟩⟩⟩⟩⟩⟩⟩⟩⟩⟩⟩⟩⟩⟩⟩⟩⟩⟩⟩⟩⟩⟩⟩⟩⟩⟩⟩⟩⟩⟩⟩⟩⟩⟩⟩⟩⟩⟩⟩⟩⟩⟩⟩⟩⟩⟩⟩⟩⟩⟩⟩⟩⟩⟩⟩⟩⟩⟩⟩⟩⟩⟩⟩⟩⟩⟩⟩⟩⟩⟩⟩⟩⟩⟩⟩⟩⟩⟩⟩⟩⟩⟩⟩⟩⟩⟩⟩⟩⟩⟩⟩⟩⟩⟩⟩⟩⟩⟩⟩⟩⟩⟩⟩⟩⟩⟩⟩⟩⟩⟩⟩⟩⟩⟩⟩⟩⟩⟩⟩⟩⟩⟩⟩⟩⟩⟩⟩⟩⟩⟩⟩⟩⟩⟩⟩⟩⟩⟩⟩⟩⟩⟩⟩⟩⟩⟩⟩⟩⟩⟩⟩⟩⟩⟩⟩⟩⟩⟩⟩⟩⟩⟩⟩⟩⟩⟩⟩⟩⟩⟩⟩⟩⟩⟩⟩⟩⟩⟩⟩⟩⟩⟩⟩⟩⟩⟩⟩⟩⟩⟩⟩⟩
  sls := List.forall_mem_cons.2 ⟨Tryz.underlying22, List.forall_mem_cons.2 ⟨Tryz.underlying30, List.forall_mem_cons.2 ⟨Tryz.underlying33, List.forall_mem_cons.2 ⟨Tryz.underlying34, List.forall_mem_cons.2 ⟨Tryz.underlying37, List.forall_mem_cons.2 ⟨Tryz.underlying41, List.forall_mem_cons.2 ⟨Tryz.underlying53, List.forall_mem_cons.2 ⟨Tryz.underlying62, List.forall_mem_cons.2 ⟨Tryz.underlying83, List.forall_mem_cons.2 ⟨Tryz.underlying85, List.forall_mem_cons.2 ⟨Tryz.underlying102, List.forall_mem_cons.2 ⟨Tryz.underlying121, List.forall_mem_cons.2 ⟨Tryz.underlying136, List.forall_mem_cons.2 ⟨Tryz.underlying159, List.forall_mem_cons.2 ⟨Tryz.underlying207, List.forall_mem_cons.2 ⟨Tryz.underlying212, fun _ h => nomatch h⟩⟩⟩⟩⟩⟩⟩⟩⟩⟩⟩⟩⟩⟩⟩⟩
  ars := List.forall_mem_cons.2 ⟨Tryz.underlying108, List.forall_mem_cons.2 ⟨Tryz.underlying119, List.forall_mem_cons.2 ⟨Tryz.underlying154, List.forall_mem_cons.2 ⟨Tryz.underlying198, fun _ h => nomatch h⟩⟩⟩⟩
  ints := List.forall_mem_cons.2 ⟨Tryz.underlying2, List.forall_mem_cons.2 ⟨Tryz.underlying3, List.forall_mem_cons.2 ⟨Tryz.underlying5, List.forall_mem_cons.2 ⟨Tryz.underlying12, List.forall_mem_cons.2 ⟨Tryz.underlying21, List.forall_mem_cons.2 ⟨Tryz.underlying26, List.forall_mem_cons.2 ⟨Tryz.underlying38, List.forall_mem_cons.2 ⟨Tryz.underlying230, fun _ h => nomatch h⟩⟩⟩⟩⟩⟩⟩⟩
  strs := List.forall_mem_cons.2 ⟨Tryz.underlying9, fun _ h => nomatch h⟩
  bools := List.forall_mem_cons.2 ⟨Tryz.underlying4, fun _ h => nomatch h⟩
  ptrs := List.forall_mem_cons.2 ⟨Tryz.underlying23, List.forall_mem_cons.2 ⟨Tryz.underlying28, List.forall_mem_cons.2 ⟨Tryz.underlying29, List.forall_mem_cons.2 ⟨Tryz.underlying51, List.forall_mem_cons.2 ⟨Tryz.underlying52, List.forall_mem_cons.2 ⟨Tryz.underlying168, List.forall_mem_cons.2 ⟨Tryz.underlying181, List.forall_mem_cons.2 ⟨Tryz.underlying183, List.forall_mem_cons.2 ⟨Tryz.underlying185, List.forall_mem_cons.2 ⟨Tryz.underlying234, fun _ h => nomatch h⟩⟩⟩⟩⟩⟩⟩⟩⟩⟩
  flds := List.forall_mem_cons.2 ⟨fl_13, List.forall_mem_cons.2 ⟨fl_31, List.forall_mem_cons.2 ⟨fl_32, List.forall_mem_cons.2 ⟨fl_35, List.forall_mem_cons.2 ⟨fl_36, List.forall_mem_cons.2 ⟨fl_39, List.forall_mem_cons.2 ⟨fl_40, List.forall_mem_cons.2 ⟨fl_42, List.forall_mem_cons.2 ⟨fl_43, List.forall_mem_cons.2 ⟨fl_44, List.forall_mem_cons.2 ⟨fl_45, List.forall_mem_cons.2 ⟨fl_47, List.forall_mem_cons.2 ⟨fl_48, List.forall_mem_cons.2 ⟨fl_54, List.forall_mem_cons.2 ⟨fl_55, List.forall_mem_cons.2 ⟨fl_59, List.forall_mem_cons.2 ⟨fl_60, List.forall_mem_cons.2 ⟨fl_64, List.forall_mem_cons.2 ⟨fl_65, List.forall_mem_cons.2 ⟨fl_79, List.forall_mem_cons.2 ⟨fl_80, List.forall_mem_cons.2 ⟨fl_86, List.forall_mem_cons.2 ⟨fl_87, List.forall_mem_cons.2 ⟨fl_89, List.forall_mem_cons.2 ⟨fl_90, List.forall_mem_cons.2 ⟨fl_92, List.forall_mem_cons.2 ⟨fl_93, List.forall_mem_cons.2 ⟨fl_99, List.forall_mem_cons.2 ⟨fl_104, List.forall_mem_cons.2 ⟨fl_105, List.forall_mem_cons.2 ⟨fl_106, List.forall_mem_cons.2 ⟨fl_107, List.forall_mem_cons.2 ⟨fl_108, List.forall_mem_cons.2 ⟨fl_109, List.forall_mem_cons.2 ⟨fl_110, List.forall_mem_cons.2 ⟨fl_119, List.forall_mem_cons.2 ⟨fl_122, List.forall_mem_cons.2 ⟨fl_123, List.forall_mem_cons.2 ⟨fl_140, List.forall_mem_cons.2 ⟨fl_141, List.forall_mem_cons.2 ⟨fl_143, List.forall_mem_cons.2 ⟨fl_144, List.forall_mem_cons.2 ⟨fl_146, List.forall_mem_cons.2 ⟨fl_147, List.forall_mem_cons.2 ⟨fl_149, List.forall_mem_cons.2 ⟨fl_150, List.forall_mem_cons.2 ⟨fl_154, List.forall_mem_cons.2 ⟨fl_198, List.forall_mem_cons.2 ⟨fl_213, List.forall_mem_cons.2 ⟨fl_214, List.forall_mem_cons.2 ⟨fl_217, fun _ h => nomatch h⟩⟩⟩⟩⟩⟩⟩⟩⟩⟩⟩⟩⟩⟩⟩⟩⟩⟩⟩⟩⟩⟩⟩⟩⟩⟩⟩⟩⟩⟩⟩⟩⟩⟩⟩⟩⟩⟩⟩⟩⟩⟩⟩⟩⟩⟩⟩⟩⟩⟩⟩
  infs := List.forall_mem_cons.2 ⟨in_3, List.forall_mem_cons.2 ⟨in_5, List.forall_mem_cons.2 ⟨in_34, List.forall_mem_cons.2 ⟨in_40, List.forall_mem_cons.2 ⟨in_48, List.forall_mem_cons.2 ⟨in_60, List.forall_mem_cons.2 ⟨in_65, List.forall_mem_cons.2 ⟨in_80, List.forall_mem_cons.2 ⟨in_93, List.forall_mem_cons.2 ⟨in_99, List.forall_mem_cons.2 ⟨in_107, List.forall_mem_cons.2 ⟨in_110, List.forall_mem_cons.2 ⟨in_141, List.forall_mem_cons.2 ⟨in_144, List.forall_mem_cons.2 ⟨in_147, List.forall_mem_cons.2 ⟨in_217, fun _ h => nomatch h⟩⟩⟩⟩⟩⟩⟩⟩⟩⟩⟩⟩⟩⟩⟩⟩
theorem follows : Tryz.prog.follows .mixedOrders = true := by kernel_rfl
end Go.Proofs.YtfajcpnbhnddbaaGreat
