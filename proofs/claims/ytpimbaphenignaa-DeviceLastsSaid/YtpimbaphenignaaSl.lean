/-
  A walk's own rules: frames as lists of known slots, memory as lists of owned blocks (chunks), contracts that name just the blocks that they take; over any program.
-/
import Derived.WalkKit
import Derived.Scope
import Derived.Deep.Quiet
namespace Go.Sl
open Go

/-! ### Frames -/
abbrev Env := List (Nat × Value)
def Env.get? : Env → Nat → Option Value
  | [], _ => none
  | (k, v) :: r, t => if k = t then some v else Env.get? r t
def ev? (ρ : Env) : Operand → Option Value
  | .tmp t => ρ.get? t
  | .const v => some v
  | .global g => some (.pointer (some ⟨g, 0, none⟩))
  | .func f => some (.func (.func f) #[] #[])
def evs? (ρ : Env) : List Operand → Option (List Value)
  | [] => some []
  | x :: xs => match ev? ρ x with
    | none => none
    | some v => match evs? ρ xs with
      | none => none
      | some r => some (v :: r)
structure Fits (n : Nat) (ρ : Env) (a : Act) : Prop where
  df : a.defers = []
  sz : a.tmps.size = n
  at_ : ∀ t v, ρ.get? t = some v → a.tmps.getD t undef = v

theorem Fits.ev {n : Nat} {ρ : Env} {a : Act} (h : Fits n ρ a) {x : Operand} {v : Value} (e : ev? ρ x = some v) : a.eval x = v := by
  cases x with
  | tmp t => exact h.at_ t v e
  | const u => simpa [ev?, Act.eval] using e
  | global g => simpa [ev?, Act.eval] using e
  | func f => simpa [ev?, Act.eval] using e

theorem Fits.evs {n : Nat} {ρ : Env} {a : Act} (h : Fits n ρ a) : ∀ {xs : List Operand} {vs : List Value}, evs? ρ xs = some vs → xs.map a.eval = vs
  | [], vs, e => by simpa [evs?] using e
  | x :: xs, vs, e => by
    unfold evs? at e
    cases h1 : ev? ρ x with
    | none => rw [h1] at e; cases e
    | some v =>
      rw [h1] at e
      cases h2 : evs? ρ xs with
      | none => rw [h2] at e; cases e
      | some r =>
        rw [h2] at e
        cases e
        simp [h.ev h1, h.evs h2]

theorem Fits.put {n : Nat} {ρ : Env} {a : Act} (h : Fits n ρ a) {d : Nat} (hd : d < n) (v : Value) : Fits n ((d, v) :: ρ) (a.put (some d) v) := by
  refine ⟨h.df, by simpa [Act.put] using h.sz, fun t u e => ?_⟩
  simp only [Env.get?] at e
  have hs := h.sz
  by_cases ht : d = t
  · subst ht
    rw [if_pos rfl] at e
    cases e
    simp [Act.put, Array.getD, hs, hd]
  · rw [if_neg ht] at e
    have := h.at_ t u e
    simp only [Act.put, Array.getD_eq_getD_getElem?] at this ⊢
    rw [Array.getElem?_setIfInBounds_ne ht]
    exact this

def Env.sub (ρ' ρ : Env) : Prop := match ρ' with
  | [] => True
  | (t, v) :: r => ρ.get? t = some v ∧ Env.sub r ρ
theorem Env.sub_get {ρ' ρ : Env} (h : Env.sub ρ' ρ) {t : Nat} {v : Value} (e : ρ'.get? t = some v) : ρ.get? t = some v := by
  induction ρ' with
  | nil => cases e
  | cons p r ih =>
    obtain ⟨k, u⟩ := p
    simp only [Env.get?] at e
    by_cases hk : k = t
    · subst hk; rw [if_pos rfl] at e; cases e; exact h.1
    · rw [if_neg hk] at e; exact ih h.2 e
theorem Fits.sub {n : Nat} {ρ ρ' : Env} {a : Act} (h : Fits n ρ a) (s : Env.sub ρ' ρ) : Fits n ρ' a := ⟨h.df, h.sz, fun t v e => h.at_ t v (Env.sub_get s e)⟩

/-! ### Memory -/
abbrev HL := List (Nat × Obj)
def ids (H : HL) : List Nat := H.map (·.1)

/-- In the world 'w', which has come of 'w0': the chunks L are there, each block once; all blocks of 'w0' but those of S0 are as they were; R is what is only read. -/
structure St (w0 : World) (S0 : List Nat) (R : HL) (L : List HL) (w : World) : Prop where
  has : ∀ p ∈ L.flatten, w.heap[p.1]? = some p.2
  nd : (ids L.flatten).Nodup
  fr : ∀ b, b < w0.heap.size → b ∉ S0 → w.heap[b]? = w0.heap[b]?
  own : ∀ b ∈ ids L.flatten, b ∈ S0 ∨ w0.heap.size ≤ b
  sz : w0.heap.size ≤ w.heap.size
  ro : ∀ p ∈ R, w0.heap[p.1]? = some p.2 ∧ p.1 ∉ S0
  env : w.os = w0.os ∧ w.tape = w0.tape ∧ w.output = w0.output

/-- A contract: what it takes (pre), what it reads (ro), what it gives. -/
structure Ctr (P : Program) (f : FuncId) (args : List Value) (pre : List HL) (ro : HL) (post : Value → List HL → Prop) : Prop where
  callable : ∀ (args : Array Value) (w : World), (callFunc f args).run P w = .ok (.enter f args) w
  go : ∀ w, (∀ p ∈ pre.flatten, w.heap[p.1]? = some p.2) → (ids pre.flatten).Nodup → (∀ p ∈ ro, w.heap[p.1]? = some p.2 ∧ p.1 ∉ ids pre.flatten) →
    Calls P f args.toArray w fun e w' => ∃ v L', e = .returned v ∧ post v L' ∧ St w (ids pre.flatten) ro L' w'

/-! ### Code, as a stack -/
structure Cx where
  w0 : World
  S0 : List Nat
  Q : Exit → Act → World → Prop

inductive Kont where
  | code (c : Code)
  | blk (id : Nat)
  | scp
  | ops (all : Array Oper) (l : List Oper)
  | rnd (J : Env → List HL → Prop)

def mean (P : Program) (n : Nat) (R : HL) (cx : Cx) : List Kont → Exit → Act → World → Prop
  | [] => cx.Q
  | .code c :: k => fun e a w => match e with
    | .normal => c.wp P (mean P n R cx k) a w
    | e => mean P n R cx k e a w
  | .blk id :: k => Exit.inBlock id (mean P n R cx k)
  | .scp :: k => Exit.noGoto (mean P n R cx k)
  | .ops all l :: k => fun e a w => match e with
    | .normal => wpList P all (mean P n R cx k) l a w
    | e => mean P n R cx k e a w
  | .rnd J :: k => fun e a w => match e with
    | .normal => ∃ ρ L, J ρ L ∧ Fits n ρ a ∧ St cx.w0 cx.S0 R L w
    | e => mean P n R cx k e a w

structure W (P : Program) (n : Nat) (R : HL) (cx : Cx) (k : List Kont) (ρ : Env) (L : List HL) : Prop where
  go : ∀ a w, Fits n ρ a → St cx.w0 cx.S0 R L w → mean P n R cx k .normal a w
/-- The end of a function: its results are read. -/
structure Fin (n : Nat) (R : HL) (cx : Cx) (ρ : Env) (L : List HL) : Prop where
  go : ∀ a w, Fits n ρ a → St cx.w0 cx.S0 R L w → cx.Q .ret a w

section
variable {P : Program} {n : Nat} {R : HL} {cx : Cx} {k : List Kont} {ρ : Env} {L : List HL}

theorem mean_ret : ∀ (k : List Kont) (a : Act) (w : World), cx.Q .ret a w → mean P n R cx k .ret a w
  | [], _, _, h => h
  | .code _ :: k, a, w, h => mean_ret k a w h
  | .blk _ :: k, a, w, h => mean_ret k a w h
  | .scp :: k, a, w, h => mean_ret k a w h
  | .ops _ _ :: k, a, w, h => mean_ret k a w h
  | .rnd _ :: k, a, w, h => mean_ret k a w h

def findBlk (id : Nat) : List Kont → Option (List Kont)
  | [] => none
  | .blk i :: k => if i = id then some k else findBlk id k
  | .code _ :: k => findBlk id k
  | .scp :: k => findBlk id k
  | .ops _ _ :: k => findBlk id k
  | .rnd _ :: k => findBlk id k
theorem mean_exit (id : Nat) : ∀ (k k' : List Kont) (a : Act) (w : World), findBlk id k = some k' → mean P n R cx k' .normal a w → mean P n R cx k (.exit id) a w
  | [], _, _, _, e, _ => by cases e
  | .code _ :: k, k', a, w, e, h => mean_exit id k k' a w e h
  | .scp :: k, k', a, w, e, h => mean_exit id k k' a w e h
  | .ops _ _ :: k, k', a, w, e, h => mean_exit id k k' a w e h
  | .rnd _ :: k, k', a, w, e, h => mean_exit id k k' a w e h
  | .blk i :: k, k', a, w, e, h => by
    simp only [findBlk] at e
    simp only [mean, Exit.inBlock]
    by_cases hi : i = id
    · rw [if_pos hi] at e; cases e; rw [if_pos hi.symm]; exact h
    · rw [if_neg hi] at e; rw [if_neg (Ne.symm hi)]; exact mean_exit id k k' a w e h

theorem then_eq (y : Code) (k : List Kont) : Exit.then (y.wp P (mean P n R cx k)) (mean P n R cx k) = mean P n R cx (.code y :: k) := by
  funext e a w
  cases e <;> rfl

/-! ### An operation that leaves the world as it is -/
/-- 'o' yields 'v', and leaves the world as it is. -/
structure OpVal (P : Program) (n : Nat) (R : HL) (cx : Cx) (o : Op) (ty : TypeId) (ρ : Env) (L : List HL) (v : Value) : Prop where
  go : ∀ (oo : Oper) a w, oo.op = o → oo.type = ty → Fits n ρ a → St cx.w0 cx.S0 R L w → (execOp a.eval oo).run P w = .ok (.value v) w

theorem W.val {all : Array Oper} {d : Nat} {op : Op} {ty : TypeId} {pos : String} {af : Array Edge} {l : List Oper} {v : Value}
    (h : OpVal P n R cx op ty ρ L v) (hd : d < n) (hk : W P n R cx (.ops all l :: k) ((d, v) :: ρ) L) :
    W P n R cx (.ops all (⟨some d, op, ty, pos, af, none⟩ :: l) :: k) ρ L := by
  refine ⟨fun a w hf hs => ?_⟩
  have hr := h.go ⟨some d, op, ty, pos, af, none⟩ a w rfl rfl hf hs
  simp only [mean, wpList, Region.wanted, if_true]
  refine .inl ?_
  unfold Oper.wp
  rw [hr]
  exact hk.go _ _ (hf.put hd v) hs

/-! ### The driver: all that only moves and reckons -/
def IsAgg (P : Program) (t : TypeId) (b : Bool) : Prop := ∀ w, (isAgg t).run P w = .ok b w
def SizeOf (P : Program) (t : TypeId) (m : Nat) : Prop := ∀ w, (sizeOf t).run P w = .ok m w
def ZeroOf (P : Program) (t : TypeId) (z : Value) : Prop := ∀ w, (zeroValue t).run P w = .ok z w
def FieldAt (P : Program) (e : Nat × Nat × Nat) : Prop :=
  ∀ (b o : Nat) (w : World), (Instr.fieldAt e.1 (.pointer (some ⟨b, o, none⟩)) e.2.1).run P w = .ok (.pointer (some ⟨b, o + e.2.2, none⟩)) w
/-- Where the parts of a struct's or an array's literal lie: (place, cells). -/
def PlacesOk (P : Program) (e : Nat × List (Nat × Nat)) : Prop :=
  (∃ fs, P.underlying e.1 = some (.struct fs) ∧ ∀ w, (fs.mapM (fun f => do pure (f.offset, ← sizeOf f.type)) : Sem (Array (Nat × Nat))).run P w = .ok e.2.toArray w) ∨
  (∃ len el m, P.underlying e.1 = some (.array len el) ∧ SizeOf P el m ∧ e.2 = (List.range len).map fun i => (i * m, m))
/-- What append asks of an element's type: its cells, its bytes. -/
def InfOk (P : Program) (e m bytes : Nat) : Prop := ∃ i z, P.info? e = some i ∧ i.zero = some z ∧ i.size = m ∧ i.bytes = bytes ∧ z.cells.size = m ∧ 0 < m
/-- What a seat's types are, as far as the walks ask. -/
structure Tab where
  offs : List (Nat × Nat × Nat)
  tys : List (Nat × Bool × Nat)
  zeros : List (Nat × Value)
  sls : List (Nat × Nat)
  ars : List (Nat × Nat × Nat)
  ints : List (Nat × IntKind)
  strs : List Nat
  bools : List Nat
  ptrs : List (Nat × Nat)
  flds : List (Nat × List (Nat × Nat))
  infs : List (Nat × Nat × Nat)
structure TabOk (P : Program) (T : Tab) : Prop where
  offs : ∀ e ∈ T.offs, FieldAt P e
  tys : ∀ e ∈ T.tys, IsAgg P e.1 e.2.1 ∧ SizeOf P e.1 e.2.2
  zeros : ∀ e ∈ T.zeros, ZeroOf P e.1 e.2
  sls : ∀ e ∈ T.sls, P.underlying e.1 = some (.slice e.2)
  ars : ∀ e ∈ T.ars, P.underlying e.1 = some (.array e.2.1 e.2.2)
  ints : ∀ e ∈ T.ints, P.underlying e.1 = some (.int e.2)
  strs : ∀ t ∈ T.strs, P.underlying t = some .string
  bools : ∀ t ∈ T.bools, P.underlying t = some .bool
  ptrs : ∀ e ∈ T.ptrs, P.underlying e.1 = some (.pointer e.2)
  flds : ∀ e ∈ T.flds, PlacesOk P e
  infs : ∀ e ∈ T.infs, InfOk P e.1 e.2.1 e.2.2

def look? {α : Type} : List (Nat × α) → Nat → Option α
  | [], _ => none
  | (k, v) :: r, t => if k = t then some v else look? r t
theorem look?_mem {α : Type} {l : List (Nat × α)} {t : Nat} {v : α} (h : look? l t = some v) : (t, v) ∈ l := by
  induction l with
  | nil => cases h
  | cons p r ih =>
    obtain ⟨k, u⟩ := p
    simp only [look?] at h
    split at h
    · rename_i hk; subst hk; cases h; simp
    · exact List.mem_cons_of_mem _ (ih h)
def offAt : List (Nat × Nat × Nat) → Nat → Nat → Option Nat
  | [], _, _ => none
  | (s, f, o) :: r, s', f' => if s = s' then (if f = f' then some o else offAt r s' f') else offAt r s' f'
theorem offAt_mem {T : List (Nat × Nat × Nat)} {s f o : Nat} (h : offAt T s f = some o) : (s, f, o) ∈ T := by
  induction T with
  | nil => cases h
  | cons p r ih =>
    obtain ⟨s', f', o'⟩ := p
    simp only [offAt] at h
    split at h
    · split at h
      · cases h; simp_all
      · exact List.mem_cons_of_mem _ (ih h)
    · exact List.mem_cons_of_mem _ (ih h)
def hasNat : List Nat → Nat → Bool
  | [], _ => false
  | x :: r, t => if x = t then true else hasNat r t
theorem hasNat_mem {l : List Nat} {t : Nat} (h : hasNat l t = true) : t ∈ l := by
  induction l with
  | nil => cases h
  | cons x r ih =>
    simp only [hasNat] at h
    split at h
    · simp_all
    · exact List.mem_cons_of_mem _ (ih h)

def cmp? (op : BinOp) (a b : Int) : Option Value :=
  match op with
  | .eql => some (.bool (decide (a = b)))
  | .neq => some (.bool (!decide (a = b)))
  | .lss => some (.bool (decide (a < b)))
  | .leq => some (.bool (decide (a ≤ b)))
  | .gtr => some (.bool (decide (b < a)))
  | .geq => some (.bool (decide (b ≤ a)))
  | _ => none
def pop? (T : Tab) (ρ : Env) : Op → Option Value
  | .move x => ev? ρ x
  | .assign x => ev? ρ x
  | .extract x i => match ev? ρ x with
    | some (.tuple ⟨l⟩) => l[i]?
    | _ => none
  | .unOp .not _ x => match ev? ρ x with
    | some (.bool b) => some (.bool (!b))
    | _ => none
  | .binOp op _ x y _ => match ev? ρ x, ev? ρ y with
    | some (.int k a), some (.int k' b) => if k = k' then cmp? op a b else none
    | _, _ => none
  | .nilCheck x => match ev? ρ x with
    | some (.pointer (some a)) => some (.pointer (some a))
    | some (.func (.func f) a b) => some (.func (.func f) a b)
    | _ => none
  | .fieldAddr s x f => match ev? ρ x with
    | some (.pointer (some ⟨b, o, none⟩)) => match offAt T.offs s f with
      | some m => some (.pointer (some ⟨b, o + m, none⟩))
      | none => none
    | _ => none
  | .makeFunc fn first cap => match evs? ρ first.toList, evs? ρ cap.toList with
    | some a, some b => some (.func fn ⟨a⟩ ⟨b⟩)
    | _, _ => none
  | .call ⟨.builtin .len, ⟨[x]⟩, ⟨[t]⟩⟩ => match ev? ρ x with
    | some (.slice _ m _) => match look? T.sls t with
      | some _ => some (.int .i64 m)
      | none => none
    | some (.string s) => if hasNat T.strs t then some (.int .i64 s.size) else none
    | _ => none
  | _ => none

theorem run_cmp (P : Program) (w : World) {op : BinOp} {k : IntKind} {a b : Int} {v : Value} (h : cmp? op a b = some v) {t : TypeId} {x y : Operand} :
    (do eqGuard op t x y (.int k a) (.int k b); binOp op t (.int k a) (.int k b)).run P w = .ok v w := by
  cases op <;> simp only [cmp?, Option.some.injEq, reduceCtorEq] at h <;> subst h <;> simp [eqGuard, binOp, Op.intCmp, BEq.beq, bne]
theorem pop_val {T : Tab} (hT : TabOk P T) {o : Op} {ty : TypeId} {v : Value} (h : pop? T ρ o = some v) : OpVal P n R cx o ty ρ L v := by
  refine ⟨fun oo a w ho hty hf hs => ?_⟩
  unfold pop? at h
  split at h
  · unfold execOp; rw [ho]; simp [hf.ev h]
  · unfold execOp; rw [ho]; simp [hf.ev h]
  · split at h
    · rename_i x i l hx
      unfold execOp; rw [ho]; simp only [hf.ev hx, Instr.extract]
      simp [h]
    · cases h
  · split at h
    · rename_i x b hx
      cases h
      unfold execOp; rw [ho]; simp [hf.ev hx, Op.unary]
    · cases h
  · split at h
    · rename_i k a' k' b' hx hy
      split at h
      · rename_i hk
        subst hk
        unfold execOp
        rw [ho]
        simp only [hf.ev hx, hf.ev hy]
        rw [Sem.run_bind, run_cmp P w h]
        rfl
      · cases h
    · cases h
  · split at h
    · rename_i x a' hx
      cases h
      unfold execOp; rw [ho]; simp [hf.ev hx]
    · rename_i x f' a' b' hx
      cases h
      unfold execOp; rw [ho]; simp [hf.ev hx]
    · cases h
  · split at h
    · rename_i s x f b' o' hx
      split at h
      · rename_i m hm
        cases h
        have := hT.offs _ (offAt_mem hm) b' o' w
        unfold execOp; rw [ho]; simp [hf.ev hx, this]
      · cases h
    · cases h
  · split at h
    · rename_i a' b' h1 h2
      cases h
      have e1 := hf.evs h1
      have e2 := hf.evs h2
      unfold execOp; rw [ho]
      simp only [Instr.makeFunc]
      have f1 : ∀ (xs : Array Operand) (l : List Value), xs.toList.map a.eval = l → xs.map a.eval = ⟨l⟩ := by
        intro xs l h; cases xs; simp at h; simp [h]
      rw [f1 _ _ e1, f1 _ _ e2]
      rfl
    · cases h
  · split at h
    · rename_i x t m cc hx
      split at h
      · rename_i e hm
        cases h
        have he := hT.sls _ (look?_mem hm)
        unfold execOp; rw [ho]; simp [resolve, invoke, builtin, Builtin.len_, hf.ev hx, underlying, he, goInt]
      · cases h
    · rename_i x t s hx
      split at h
      · rename_i hm
        cases h
        have he := hT.strs _ (hasNat_mem hm)
        unfold execOp; rw [ho]; simp [resolve, invoke, builtin, Builtin.len_, hf.ev hx, underlying, he, goInt]
      · cases h
    · cases h
  · cases h

def drive (T : Tab) (n : Nat) : Nat → List Kont → Env → Option (List Kont × Env)
  | 0, s, ρ => some (s, ρ)
  | f + 1, s, ρ => match s with
    | .code c :: k => match c with
      | .skip => drive T n f k ρ
      | .label _ => drive T n f k ρ
      | .seq a b => drive T n f (.code a :: .code b :: k) ρ
      | .region _ ops false => drive T n f (.ops ops ops.toList :: k) ρ
      | .block id c => drive T n f (.code c :: .blk id :: k) ρ
      | .scope c => drive T n f (.code c :: .scp :: k) ρ
      | .exit id => match findBlk id k with
        | some k' => drive T n f k' ρ
        | none => none
      | c => some (.code c :: k, ρ)
    | .blk _ :: k => drive T n f k ρ
    | .scp :: k => drive T n f k ρ
    | .ops _ [] :: k => drive T n f k ρ
    | .ops all (o :: l) :: k => match o with
      | ⟨some d, op, _, _, _, none⟩ => match pop? T ρ op with
        | some v => if Nat.blt d n then drive T n f (.ops all l :: k) ((d, v) :: ρ) else none
        | none => some (.ops all (o :: l) :: k, ρ)
      | o => some (.ops all (o :: l) :: k, ρ)
    | s => some (s, ρ)

theorem W.drive {T : Tab} (hT : TabOk P T) : ∀ (f : Nat) {s s' : List Kont} {ρ ρ' : Env}, drive T n f s ρ = some (s', ρ') → W P n R cx s' ρ' L → W P n R cx s ρ L
  | 0, s, s', ρ, ρ', e, h => by simp only [Sl.drive, Option.some.injEq, Prod.mk.injEq] at e; obtain ⟨rfl, rfl⟩ := e; exact h
  | f + 1, s, s', ρ, ρ', e, h => by
    unfold Sl.drive at e
    split at e
    · split at e
      · have := (W.drive hT f e h).go; exact ⟨fun a w hf hs => wp_skip (this a w hf hs)⟩
      · have := (W.drive hT f e h).go; exact ⟨fun a w hf hs => wp_label (this a w hf hs)⟩
      · have := (W.drive hT f e h).go
        refine ⟨fun a w hf hs => ?_⟩
        have h1 := this a w hf hs
        simp only [mean] at h1 ⊢
        refine wp_seq ?_
        rw [then_eq]
        exact h1
      · have := (W.drive hT f e h).go
        refine ⟨fun a w hf hs => ?_⟩
        have h1 := this a w hf hs
        simp only [mean] at h1 ⊢
        exact wp_region_list h1
      · have := (W.drive hT f e h).go
        refine ⟨fun a w hf hs => ?_⟩
        have h1 := this a w hf hs
        simp only [mean] at h1 ⊢
        exact wp_block h1
      · have := (W.drive hT f e h).go
        refine ⟨fun a w hf hs => ?_⟩
        have h1 := this a w hf hs
        simp only [mean] at h1 ⊢
        exact wp_scope_straight h1
      · split at e
        · rename_i k' hk
          have := (W.drive hT f e h).go
          refine ⟨fun a w hf hs => ?_⟩
          have h1 := this a w hf hs
          simp only [mean]
          exact wp_exit (mean_exit _ _ _ a w hk h1)
        · cases e
      · simp only [Option.some.injEq, Prod.mk.injEq] at e; obtain ⟨rfl, rfl⟩ := e; exact h
    · have := (W.drive hT f e h).go; exact ⟨fun a w hf hs => this a w hf hs⟩
    · have := (W.drive hT f e h).go; exact ⟨fun a w hf hs => this a w hf hs⟩
    · have := (W.drive hT f e h).go; exact ⟨fun a w hf hs => this a w hf hs⟩
    · split at e
      · split at e
        · rename_i d op ty pos af v hv
          split at e
          · rename_i hd
            exact W.val (pop_val hT hv) (by simpa using hd) (W.drive hT f e h)
          · cases e
        · simp only [Option.some.injEq, Prod.mk.injEq] at e; obtain ⟨rfl, rfl⟩ := e; exact h
      · simp only [Option.some.injEq, Prod.mk.injEq] at e; obtain ⟨rfl, rfl⟩ := e; exact h
    · simp only [Option.some.injEq, Prod.mk.injEq] at e; obtain ⟨rfl, rfl⟩ := e; exact h
end

end Go.Sl
