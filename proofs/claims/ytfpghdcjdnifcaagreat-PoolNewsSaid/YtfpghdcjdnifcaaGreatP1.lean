/-
  The walks of this claim and the rules that they use, part one: each theorem is a contract of one function, or what such a proof asks.
-/
import Derived.WalkKit
import Derived.Scope
import Derived.Deep.Quiet
import Derived.StillTail
import Derived.Test.YtfpghdcjdnifcaaGreatProg
import Derived.KernelRfl
namespace Go.Sl
open Go
abbrev Env := List (Nat × Value)
def Env.get? : Env → Nat → Option Value
 | [], _ => none
 | (k, v) :: r, t => if k = t then some v else Env.get? r t
def ev? (ρ : Env) : Operand → Option Value
 | .tmp t => ρ.get? t
 | .const v => some v
 | .global g => some (.pointer (some ⟨g, 0, none⟩))
 | .func f => some (.func (.func f) #[] #[])
def evs? (ρ : Env) : List Operand → Option (List Value)
 | [] => some []
 | x :: xs => match ev? ρ x with
  | none => none
  | some v => match evs? ρ xs with
   | none => none
   | some r => some (v :: r)
structure Fits (n : Nat) (ρ : Env) (a : Act) : Prop where
 df : a.defers = []
 sz : a.tmps.size = n
 at_ : ∀ t v, ρ.get? t = some v → a.tmps.getD t undef = v
theorem Fits.ev {n : Nat} {ρ : Env} {a : Act} (h : Fits n ρ a) {x : Operand} {v : Value} (e : ev? ρ x = some v) : a.eval x = v := by
 cases x with
 | tmp t => exact h.at_ t v e
 | const u => simpa [ev?, Act.eval] using e
 | global g => simpa [ev?, Act.eval] using e
 | func f => simpa [ev?, Act.eval] using e
theorem Fits.evs {n : Nat} {ρ : Env} {a : Act} (h : Fits n ρ a) : ∀ {xs : List Operand} {vs : List Value}, evs? ρ xs = some vs → xs.map a.eval = vs
 | [], vs, e => by simpa [evs?] using e
 | x :: xs, vs, e => by
  unfold evs? at e
  cases h1 : ev? ρ x with
  | none => rw [h1] at e; cases e
  | some v =>
   rw [h1] at e
   cases h2 : evs? ρ xs with
   | none => rw [h2] at e; cases e
   | some r =>
    rw [h2] at e
    cases e
    simp [h.ev h1, h.evs h2]
theorem Fits.put {n : Nat} {ρ : Env} {a : Act} (h : Fits n ρ a) {d : Nat} (hd : d < n) (v : Value) : Fits n ((d, v) :: ρ) (a.put (some d) v) := by
 refine ⟨h.df, by simpa [Act.put] using h.sz, fun t u e => ?_⟩
 simp only [Env.get?] at e
 have hs := h.sz
 by_cases ht : d = t
 ·
  subst ht
  rw [if_pos rfl] at e
  cases e
  simp [Act.put, Array.getD, hs, hd]
 ·
  rw [if_neg ht] at e
  have := h.at_ t u e
  simp only [Act.put, Array.getD_eq_getD_getElem?] at this ⊢
  rw [Array.getElem?_setIfInBounds_ne ht]
  exact this
def Env.sub (ρ' ρ : Env) : Prop := match ρ' with
 | [] => True
 | (t, v) :: r => ρ.get? t = some v ∧ Env.sub r ρ
theorem Env.sub_get {ρ' ρ : Env} (h : Env.sub ρ' ρ) {t : Nat} {v : Value} (e : ρ'.get? t = some v) : ρ.get? t = some v := by
 induction ρ' with
 | nil => cases e
 | cons p r ih =>
  obtain ⟨k, u⟩ := p
  simp only [Env.get?] at e
  by_cases hk : k = t
  · subst hk; rw [if_pos rfl] at e; cases e; exact h.1
  · rw [if_neg hk] at e; exact ih h.2 e
theorem Fits.sub {n : Nat} {ρ ρ' : Env} {a : Act} (h : Fits n ρ a) (s : Env.sub ρ' ρ) : Fits n ρ' a := ⟨h.df, h.sz, fun t v e => h.at_ t v (Env.sub_get s e)⟩
abbrev HL := List (Nat × Obj)
def ids (H : HL) : List Nat := H.map (·.1)
structure St (w0 : World) (S0 : List Nat) (R : HL) (L : List HL) (w : World) : Prop where
 has : ∀ p ∈ L.flatten, w.heap[p.1]? = some p.2
 nd : (ids L.flatten).Nodup
 fr : ∀ b, b < w0.heap.size → b ∉ S0 → w.heap[b]? = w0.heap[b]?
 own : ∀ b ∈ ids L.flatten, b ∈ S0 ∨ w0.heap.size ≤ b
 sz : w0.heap.size ≤ w.heap.size
 ro : ∀ p ∈ R, w0.heap[p.1]? = some p.2 ∧ p.1 ∉ S0
 env : w.os = w0.os ∧ w.tape = w0.tape ∧ w.output = w0.output
structure Ctr (P : Program) (f : FuncId) (args : List Value) (pre : List HL) (ro : HL) (post : Value → List HL → Prop) : Prop where
 callable : ∀ (args : Array Value) (w : World), (callFunc f args).run P w = .ok (.enter f args) w
 go : ∀ w, (∀ p ∈ pre.flatten, w.heap[p.1]? = some p.2) → (ids pre.flatten).Nodup → (∀ p ∈ ro, w.heap[p.1]? = some p.2 ∧ p.1 ∉ ids pre.flatten) →
  Calls P f args.toArray w fun e w' => ∃ v L', e = .returned v ∧ post v L' ∧ St w (ids pre.flatten) ro L' w'
structure Cx where
 w0 : World
 S0 : List Nat
 Q : Exit → Act → World → Prop
inductive Kont where
 | code (c : Code)
 | blk (id : Nat)
 | scp
 | ops (all : Array Oper) (l : List Oper)
 | rnd (J : Env → List HL → Prop)
def mean (P : Program) (n : Nat) (R : HL) (cx : Cx) : List Kont → Exit → Act → World → Prop
 | [] => cx.Q
 | .code c :: k => fun e a w => match e with
  | .normal => c.wp P (mean P n R cx k) a w
  | e => mean P n R cx k e a w
 | .blk id :: k => Exit.inBlock id (mean P n R cx k)
 | .scp :: k => Exit.noGoto (mean P n R cx k)
 | .ops all l :: k => fun e a w => match e with
  | .normal => wpList P all (mean P n R cx k) l a w
  | e => mean P n R cx k e a w
 | .rnd J :: k => fun e a w => match e with
  | .normal => ∃ ρ L, J ρ L ∧ Fits n ρ a ∧ St cx.w0 cx.S0 R L w
  | e => mean P n R cx k e a w
structure W (P : Program) (n : Nat) (R : HL) (cx : Cx) (k : List Kont) (ρ : Env) (L : List HL) : Prop where
 go : ∀ a w, Fits n ρ a → St cx.w0 cx.S0 R L w → mean P n R cx k .normal a w
structure Fin (n : Nat) (R : HL) (cx : Cx) (ρ : Env) (L : List HL) : Prop where
 go : ∀ a w, Fits n ρ a → St cx.w0 cx.S0 R L w → cx.Q .ret a w
section
variable {P : Program} {n : Nat} {R : HL} {cx : Cx} {k : List Kont} {ρ : Env} {L : List HL}
theorem mean_ret : ∀ (k : List Kont) (a : Act) (w : World), cx.Q .ret a w → mean P n R cx k .ret a w
 | [], _, _, h => h
 | .code _ :: k, a, w, h => mean_ret k a w h
 | .blk _ :: k, a, w, h => mean_ret k a w h
 | .scp :: k, a, w, h => mean_ret k a w h
 | .ops _ _ :: k, a, w, h => mean_ret k a w h
 | .rnd _ :: k, a, w, h => mean_ret k a w h
def findBlk (id : Nat) : List Kont → Option (List Kont)
 | [] => none
 | .blk i :: k => if i = id then some k else findBlk id k
 | .code _ :: k => findBlk id k
 | .scp :: k => findBlk id k
 | .ops _ _ :: k => findBlk id k
 | .rnd _ :: k => findBlk id k
theorem mean_exit (id : Nat) : ∀ (k k' : List Kont) (a : Act) (w : World), findBlk id k = some k' → mean P n R cx k' .normal a w → mean P n R cx k (.exit id) a w
 | [], _, _, _, e, _ => by cases e
 | .code _ :: k, k', a, w, e, h => mean_exit id k k' a w e h
 | .scp :: k, k', a, w, e, h => mean_exit id k k' a w e h
 | .ops _ _ :: k, k', a, w, e, h => mean_exit id k k' a w e h
 | .rnd _ :: k, k', a, w, e, h => mean_exit id k k' a w e h
 | .blk i :: k, k', a, w, e, h => by
  simp only [findBlk] at e
  simp only [mean, Exit.inBlock]
  by_cases hi : i = id
  · rw [if_pos hi] at e; cases e; rw [if_pos hi.symm]; exact h
  · rw [if_neg hi] at e; rw [if_neg (Ne.symm hi)]; exact mean_exit id k k' a w e h
theorem then_eq (y : Code) (k : List Kont) : Exit.then (y.wp P (mean P n R cx k)) (mean P n R cx k) = mean P n R cx (.code y :: k) := by
 funext e a w
 cases e <;> rfl
structure OpVal (P : Program) (n : Nat) (R : HL) (cx : Cx) (o : Op) (ty : TypeId) (ρ : Env) (L : List HL) (v : Value) : Prop where
 go : ∀ (oo : Oper) a w, oo.op = o → oo.type = ty → Fits n ρ a → St cx.w0 cx.S0 R L w → (execOp a.eval oo).run P w = .ok (.value v) w
theorem W.val {all : Array Oper} {d : Nat} {op : Op} {ty : TypeId} {pos : String} {af : Array Edge} {l : List Oper} {v : Value}
  (h : OpVal P n R cx op ty ρ L v) (hd : d < n) (hk : W P n R cx (.ops all l :: k) ((d, v) :: ρ) L) :
  W P n R cx (.ops all (⟨some d, op, ty, pos, af, none⟩ :: l) :: k) ρ L := by
 refine ⟨fun a w hf hs => ?_⟩
 have hr := h.go ⟨some d, op, ty, pos, af, none⟩ a w rfl rfl hf hs
 simp only [mean, wpList, Region.wanted, if_true]
 refine .inl ?_
 unfold Oper.wp
 rw [hr]
 exact hk.go _ _ (hf.put hd v) hs
def IsAgg (P : Program) (t : TypeId) (b : Bool) : Prop := ∀ w, (isAgg t).run P w = .ok b w
def SizeOf (P : Program) (t : TypeId) (m : Nat) : Prop := ∀ w, (sizeOf t).run P w = .ok m w
def ZeroOf (P : Program) (t : TypeId) (z : Value) : Prop := ∀ w, (zeroValue t).run P w = .ok z w
def FieldAt (P : Program) (e : Nat × Nat × Nat) : Prop :=
 ∀ (b o : Nat) (w : World), (Instr.fieldAt e.1 (.pointer (some ⟨b, o, none⟩)) e.2.1).run P w = .ok (.pointer (some ⟨b, o + e.2.2, none⟩)) w
def PlacesOk (P : Program) (e : Nat × List (Nat × Nat)) : Prop :=
 (∃ fs, P.underlying e.1 = some (.struct fs) ∧ ∀ w, (fs.mapM (fun f => do pure (f.offset, ← sizeOf f.type)) : Sem (Array (Nat × Nat))).run P w = .ok e.2.toArray w) ∨
 (∃ len el m, P.underlying e.1 = some (.array len el) ∧ SizeOf P el m ∧ e.2 = (List.range len).map fun i => (i * m, m))
def InfOk (P : Program) (e m bytes : Nat) : Prop := ∃ i z, P.info? e = some i ∧ i.zero = some z ∧ i.size = m ∧ i.bytes = bytes ∧ z.cells.size = m ∧ 0 < m
structure Tab where
 offs : List (Nat × Nat × Nat)
 tys : List (Nat × Bool × Nat)
 zeros : List (Nat × Value)
 sls : List (Nat × Nat)
 ars : List (Nat × Nat × Nat)
 ints : List (Nat × IntKind)
 strs : List Nat
 bools : List Nat
 ptrs : List (Nat × Nat)
 flds : List (Nat × List (Nat × Nat))
 infs : List (Nat × Nat × Nat)
structure TabOk (P : Program) (T : Tab) : Prop where
 offs : ∀ e ∈ T.offs, FieldAt P e
 tys : ∀ e ∈ T.tys, IsAgg P e.1 e.2.1 ∧ SizeOf P e.1 e.2.2
 zeros : ∀ e ∈ T.zeros, ZeroOf P e.1 e.2
 sls : ∀ e ∈ T.sls, P.underlying e.1 = some (.slice e.2)
 ars : ∀ e ∈ T.ars, P.underlying e.1 = some (.array e.2.1 e.2.2)
 ints : ∀ e ∈ T.ints, P.underlying e.1 = some (.int e.2)
 strs : ∀ t ∈ T.strs, P.underlying t = some .string
 bools : ∀ t ∈ T.bools, P.underlying t = some .bool
 ptrs : ∀ e ∈ T.ptrs, P.underlying e.1 = some (.pointer e.2)
 flds : ∀ e ∈ T.flds, PlacesOk P e
 infs : ∀ e ∈ T.infs, InfOk P e.1 e.2.1 e.2.2
def look? {α : Type} : List (Nat × α) → Nat → Option α
 | [], _ => none
 | (k, v) :: r, t => if k = t then some v else look? r t
theorem look?_mem {α : Type} {l : List (Nat × α)} {t : Nat} {v : α} (h : look? l t = some v) : (t, v) ∈ l := by
 induction l with
 | nil => cases h
 | cons p r ih =>
  obtain ⟨k, u⟩ := p
  simp only [look?] at h
  split at h
  · rename_i hk; subst hk; cases h; simp
  · exact List.mem_cons_of_mem _ (ih h)
def offAt : List (Nat × Nat × Nat) → Nat → Nat → Option Nat
 | [], _, _ => none
 | (s, f, o) :: r, s', f' => if s = s' then (if f = f' then some o else offAt r s' f') else offAt r s' f'
theorem offAt_mem {T : List (Nat × Nat × Nat)} {s f o : Nat} (h : offAt T s f = some o) : (s, f, o) ∈ T := by
 induction T with
 | nil => cases h
 | cons p r ih =>
  obtain ⟨s', f', o'⟩ := p
  simp only [offAt] at h
  split at h
  ·
   split at h
   · cases h; simp_all
   · exact List.mem_cons_of_mem _ (ih h)
  · exact List.mem_cons_of_mem _ (ih h)
def hasNat : List Nat → Nat → Bool
 | [], _ => false
 | x :: r, t => if x = t then true else hasNat r t
theorem hasNat_mem {l : List Nat} {t : Nat} (h : hasNat l t = true) : t ∈ l := by
 induction l with
 | nil => cases h
 | cons x r ih =>
  simp only [hasNat] at h
  split at h
  · simp_all
  · exact List.mem_cons_of_mem _ (ih h)
def cmp? (op : BinOp) (a b : Int) : Option Value :=
 match op with
 | .eql => some (.bool (decide (a = b)))
 | .neq => some (.bool (!decide (a = b)))
 | .lss => some (.bool (decide (a < b)))
 | .leq => some (.bool (decide (a ≤ b)))
 | .gtr => some (.bool (decide (b < a)))
 | .geq => some (.bool (decide (b ≤ a)))
 | _ => none
def pop? (T : Tab) (ρ : Env) : Op → Option Value
 | .move x => ev? ρ x
 | .assign x => ev? ρ x
 | .extract x i => match ev? ρ x with
  | some (.tuple ⟨l⟩) => l[i]?
  | _ => none
 | .unOp .not _ x => match ev? ρ x with
  | some (.bool b) => some (.bool (!b))
  | _ => none
 | .binOp op _ x y _ => match ev? ρ x, ev? ρ y with
  | some (.int k a), some (.int k' b) => if k = k' then cmp? op a b else none
  | _, _ => none
 | .nilCheck x => match ev? ρ x with
  | some (.pointer (some a)) => some (.pointer (some a))
  | some (.func (.func f) a b) => some (.func (.func f) a b)
  | _ => none
 | .fieldAddr s x f => match ev? ρ x with
  | some (.pointer (some ⟨b, o, none⟩)) => match offAt T.offs s f with
   | some m => some (.pointer (some ⟨b, o + m, none⟩))
   | none => none
  | _ => none
 | .makeFunc fn first cap => match evs? ρ first.toList, evs? ρ cap.toList with
  | some a, some b => some (.func fn ⟨a⟩ ⟨b⟩)
  | _, _ => none
 | .call ⟨.builtin .len, ⟨[x]⟩, ⟨[t]⟩⟩ => match ev? ρ x with
  | some (.slice _ m _) => match look? T.sls t with
   | some _ => some (.int .i64 m)
   | none => none
  | some (.string s) => if hasNat T.strs t then some (.int .i64 s.size) else none
  | _ => none
 | _ => none
theorem run_cmp (P : Program) (w : World) {op : BinOp} {k : IntKind} {a b : Int} {v : Value} (h : cmp? op a b = some v) {t : TypeId} {x y : Operand} :
  (do eqGuard op t x y (.int k a) (.int k b); binOp op t (.int k a) (.int k b)).run P w = .ok v w := by
 cases op <;> simp only [cmp?, Option.some.injEq, reduceCtorEq] at h <;> subst h <;> simp [eqGuard, binOp, Op.intCmp, BEq.beq, bne]
theorem pop_val {T : Tab} (hT : TabOk P T) {o : Op} {ty : TypeId} {v : Value} (h : pop? T ρ o = some v) : OpVal P n R cx o ty ρ L v := by
 refine ⟨fun oo a w ho hty hf hs => ?_⟩
 unfold pop? at h
 split at h
 · unfold execOp; rw [ho]; simp [hf.ev h]
 · unfold execOp; rw [ho]; simp [hf.ev h]
 ·
  split at h
  ·
   rename_i x i l hx
   unfold execOp; rw [ho]; simp only [hf.ev hx, Instr.extract]
   simp [h]
  · cases h
 ·
  split at h
  ·
   rename_i x b hx
   cases h
   unfold execOp; rw [ho]; simp [hf.ev hx, Op.unary]
  · cases h
 ·
  split at h
  ·
   rename_i k a' k' b' hx hy
   split at h
   ·
    rename_i hk
    subst hk
    unfold execOp
    rw [ho]
    simp only [hf.ev hx, hf.ev hy]
    rw [Sem.run_bind, run_cmp P w h]
    rfl
   · cases h
  · cases h
 ·
  split at h
  ·
   rename_i x a' hx
   cases h
   unfold execOp; rw [ho]; simp [hf.ev hx]
  ·
   rename_i x f' a' b' hx
   cases h
   unfold execOp; rw [ho]; simp [hf.ev hx]
  · cases h
 ·
  split at h
  ·
   rename_i s x f b' o' hx
   split at h
   ·
    rename_i m hm
    cases h
    have := hT.offs _ (offAt_mem hm) b' o' w
    unfold execOp; rw [ho]; simp [hf.ev hx, this]
   · cases h
  · cases h
 ·
  split at h
  ·
   rename_i a' b' h1 h2
   cases h
   have e1 := hf.evs h1
   have e2 := hf.evs h2
   unfold execOp; rw [ho]
   simp only [Instr.makeFunc]
   have f1 : ∀ (xs : Array Operand) (l : List Value), xs.toList.map a.eval = l → xs.map a.eval = ⟨l⟩ := by
    intro xs l h; cases xs; simp at h; simp [h]
   rw [f1 _ _ e1, f1 _ _ e2]
   rfl
  · cases h
 ·
  split at h
  ·
   rename_i x t m cc hx
   split at h
   ·
    rename_i e hm
    cases h
    have he := hT.sls _ (look?_mem hm)
    unfold execOp; rw [ho]; simp [resolve, invoke, builtin, Builtin.len_, hf.ev hx, underlying, he, goInt]
   · cases h
  ·
   rename_i x t s hx
   split at h
   ·
    rename_i hm
    cases h
    have he := hT.strs _ (hasNat_mem hm)
    unfold execOp; rw [ho]; simp [resolve, invoke, builtin, Builtin.len_, hf.ev hx, underlying, he, goInt]
   · cases h
  · cases h
 · cases h
def drive (T : Tab) (n : Nat) : Nat → List Kont → Env → Option (List Kont × Env)
 | 0, s, ρ => some (s, ρ)
 | f + 1, s, ρ => match s with
  | .code c :: k => match c with
   | .skip => drive T n f k ρ
   | .label _ => drive T n f k ρ
   | .seq a b => drive T n f (.code a :: .code b :: k) ρ
   | .region _ ops false => drive T n f (.ops ops ops.toList :: k) ρ
   | .block id c => drive T n f (.code c :: .blk id :: k) ρ
   | .scope c => drive T n f (.code c :: .scp :: k) ρ
   | .exit id => match findBlk id k with
    | some k' => drive T n f k' ρ
    | none => none
   | c => some (.code c :: k, ρ)
  | .blk _ :: k => drive T n f k ρ
  | .scp :: k => drive T n f k ρ
  | .ops _ [] :: k => drive T n f k ρ
  | .ops all (o :: l) :: k => match o with
   | ⟨some d, op, _, _, _, none⟩ => match pop? T ρ op with
    | some v => if Nat.blt d n then drive T n f (.ops all l :: k) ((d, v) :: ρ) else none
    | none => some (.ops all (o :: l) :: k, ρ)
   | o => some (.ops all (o :: l) :: k, ρ)
  | s => some (s, ρ)
theorem W.drive {T : Tab} (hT : TabOk P T) : ∀ (f : Nat) {s s' : List Kont} {ρ ρ' : Env}, drive T n f s ρ = some (s', ρ') → W P n R cx s' ρ' L → W P n R cx s ρ L
 | 0, s, s', ρ, ρ', e, h => by simp only [Sl.drive, Option.some.injEq, Prod.mk.injEq] at e; obtain ⟨rfl, rfl⟩ := e; exact h
 | f + 1, s, s', ρ, ρ', e, h => by
  unfold Sl.drive at e
  split at e
  ·
   split at e
   · have := (W.drive hT f e h).go; exact ⟨fun a w hf hs => wp_skip (this a w hf hs)⟩
   · have := (W.drive hT f e h).go; exact ⟨fun a w hf hs => wp_label (this a w hf hs)⟩
   ·
    have := (W.drive hT f e h).go
    refine ⟨fun a w hf hs => ?_⟩
    have h1 := this a w hf hs
    simp only [mean] at h1 ⊢
    refine wp_seq ?_
    rw [then_eq]
    exact h1
   ·
    have := (W.drive hT f e h).go
    refine ⟨fun a w hf hs => ?_⟩
    have h1 := this a w hf hs
    simp only [mean] at h1 ⊢
    exact wp_region_list h1
   ·
    have := (W.drive hT f e h).go
    refine ⟨fun a w hf hs => ?_⟩
    have h1 := this a w hf hs
    simp only [mean] at h1 ⊢
    exact wp_block h1
   ·
    have := (W.drive hT f e h).go
    refine ⟨fun a w hf hs => ?_⟩
    have h1 := this a w hf hs
    simp only [mean] at h1 ⊢
    exact wp_scope_straight h1
   ·
    split at e
    ·
     rename_i k' hk
     have := (W.drive hT f e h).go
     refine ⟨fun a w hf hs => ?_⟩
     have h1 := this a w hf hs
     simp only [mean]
     exact wp_exit (mean_exit _ _ _ a w hk h1)
    · cases e
   · simp only [Option.some.injEq, Prod.mk.injEq] at e; obtain ⟨rfl, rfl⟩ := e; exact h
  · have := (W.drive hT f e h).go; exact ⟨fun a w hf hs => this a w hf hs⟩
  · have := (W.drive hT f e h).go; exact ⟨fun a w hf hs => this a w hf hs⟩
  · have := (W.drive hT f e h).go; exact ⟨fun a w hf hs => this a w hf hs⟩
  ·
   split at e
   ·
    split at e
    ·
     rename_i d op ty pos af v hv
     split at e
     ·
      rename_i hd
      exact W.val (pop_val hT hv) (by simpa using hd) (W.drive hT f e h)
     · cases e
    · simp only [Option.some.injEq, Prod.mk.injEq] at e; obtain ⟨rfl, rfl⟩ := e; exact h
   · simp only [Option.some.injEq, Prod.mk.injEq] at e; obtain ⟨rfl, rfl⟩ := e; exact h
  · simp only [Option.some.injEq, Prod.mk.injEq] at e; obtain ⟨rfl, rfl⟩ := e; exact h
end
end Go.Sl
namespace Go.Sl
open Go
section
variable {P : Program} {n : Nat} {R : HL} {cx : Cx} {k : List Kont} {ρ : Env} {L : List HL}
def At (R : HL) (L : List HL) (b : Nat) (o : Obj) : Prop := (b, o) ∈ L.flatten ∨ (b, o) ∈ R
theorem At.heap {b : Nat} {o : Obj} (h : At R L b o) {w0 : World} {S0 : List Nat} {w : World} (hs : St w0 S0 R L w) : w.heap[b]? = some o := by
 rcases h with h | h
 · exact hs.has _ h
 ·
  obtain ⟨h1, h2⟩ := hs.ro _ h
  rw [hs.fr b (Array.getElem?_eq_some_iff.1 h1).1 h2]
  exact h1
theorem at_own {b : Nat} {o : Obj} (i : Nat) (h : L[i]? = some [(b, o)]) : At R L b o :=
 .inl (List.mem_flatten.2 ⟨_, List.mem_of_getElem? h, by simp⟩)
theorem at_in {b : Nat} {o : Obj} {H : HL} (i : Nat) (h : L[i]? = some H) (h2 : (b, o) ∈ H) : At R L b o :=
 .inl (List.mem_flatten.2 ⟨_, List.mem_of_getElem? h, h2⟩)
theorem at_ro {b : Nat} {o : Obj} (i : Nat) (h : R[i]? = some (b, o)) : At R L b o := .inr (List.mem_of_getElem? h)
def take? : List Value → Nat → Option (List Value)
 | _, 0 => some []
 | [], _ + 1 => none
 | x :: l, m + 1 => match take? l m with
  | some r => some (x :: r)
  | none => none
def seg? : List Value → Nat → Nat → Option (List Value)
 | l, 0, m => take? l m
 | [], _ + 1, _ => none
 | _ :: l, o + 1, m => seg? l o m
def splice? : List Value → Nat → List Value → Option (List Value)
 | l, 0, [] => some l
 | [], 0, _ :: _ => none
 | _ :: l, 0, v :: vs => match splice? l 0 vs with
  | some r => some (v :: r)
  | none => none
 | [], _ + 1, _ => none
 | x :: l, o + 1, vs => match splice? l o vs with
  | some r => some (x :: r)
  | none => none
theorem take?_eq : ∀ (l : List Value) (m : Nat) {vs : List Value}, take? l m = some vs → m ≤ l.length ∧ vs = l.take m
 | l, 0, vs, h => by cases l <;> (simp only [take?, Option.some.injEq] at h; subst h; simp)
 | [], _ + 1, _, h => by cases h
 | x :: l, m + 1, vs, h => by
  simp only [take?] at h
  split at h
  ·
   rename_i r hr
   cases h
   obtain ⟨h1, h2⟩ := take?_eq l m hr
   simp [h1, h2]
  · cases h
theorem seg?_eq : ∀ (l : List Value) (o m : Nat) {vs : List Value}, seg? l o m = some vs → o + m ≤ l.length ∧ vs = (l.drop o).take m
 | l, 0, m, vs, h => by
  have h' : take? l m = some vs := by cases l <;> exact h
  simpa using take?_eq l m h'
 | [], _ + 1, _, _, h => by cases h
 | x :: l, o + 1, m, vs, h => by
  have := seg?_eq l o m (vs := vs) (by simpa [seg?] using h)
  simp only [List.length_cons, List.drop_succ_cons]
  exact ⟨by omega, this.2⟩
theorem splice?_eq : ∀ (l : List Value) (o : Nat) (vs : List Value) {l' : List Value}, splice? l o vs = some l' → o + vs.length ≤ l.length ∧ l' = l.take o ++ vs ++ l.drop (o + vs.length)
 | l, 0, [], l', h => by
  have : l = l' := by cases l <;> simpa [splice?] using h
  subst this
  simp
 | [], 0, _ :: _, _, h => by cases h
 | x :: l, 0, v :: vs, l', h => by
  simp only [splice?] at h
  split at h
  ·
   rename_i r hr
   cases h
   obtain ⟨h1, h2⟩ := splice?_eq l 0 vs hr
   subst h2
   simp at h1 ⊢
   exact h1
  · cases h
 | [], _ + 1, _, _, h => by cases h
 | x :: l, o + 1, vs, l', h => by
  simp only [splice?] at h
  split at h
  ·
   rename_i r hr
   cases h
   obtain ⟨h1, h2⟩ := splice?_eq l o vs hr
   subst h2
   simp only [List.length_cons, List.take_succ_cons, List.cons_append]
   refine ⟨by omega, ?_⟩
   rw [show o + 1 + vs.length = (o + vs.length) + 1 from by omega, List.drop_succ_cons]
  · cases h
def cells? : Value → Option (List Value)
 | .agg ⟨l⟩ => some l
 | .tuple _ => none
 | v => some [v]
theorem cells?_eq {v : Value} {l : List Value} (h : cells? v = some l) : v.cells = l.toArray := by
 cases v <;> simp only [cells?, Option.some.injEq, reduceCtorEq] at h <;> subst h <;> rfl
def allOne : List Value → Bool
 | [] => true
 | v :: r => match v with
  | .agg _ => false
  | .tuple _ => false
  | _ => allOne r
theorem allOne_mem {l : List Value} (h : allOne l = true) : ∀ v ∈ l, v.oneCell' = true := by
 induction l with
 | nil => simp
 | cons v r ih =>
  intro u hu
  rcases List.mem_cons.1 hu with rfl | hu
  · cases u <;> simp_all [allOne, Value.oneCell']
  ·
   refine ih ?_ u hu
   cases v <;> simp_all [allOne]
theorem allOne_of {l : List Value} (h : ∀ v ∈ l, v.oneCell' = true) : allOne l = true := by
 induction l with
 | nil => rfl
 | cons v r ih =>
  have hv := h v (by simp)
  have hr := ih (fun u hu => h u (by simp [hu]))
  cases v <;> simp_all [allOne, Value.oneCell']
theorem Addr.add_none' (b o m : Nat) : (⟨b, o, none⟩ : Addr).add m = ⟨b, o + m, none⟩ := by
 unfold Addr.add; split <;> simp_all
theorem OpVal.load1 {t ty : TypeId} {x : Operand} {b off : Nat} {l : List Value} {e : TypeId} {fr : Nat × Nat} {v : Value}
  (ht : IsAgg P t false) (hx : ev? ρ x = some (.pointer (some ⟨b, off, none⟩))) (hb : At R L b (.cells l.toArray e fr)) (hv : l[off]? = some v) :
  OpVal P n R cx (.load t x) ty ρ L v := by
 refine ⟨fun oo a w ho hty hf hs => ?_⟩
 have hc : w.cell? ⟨b, off, none⟩ = some v := by rw [cell_of_row w b off _ e fr (hb.heap hs)]; simpa using hv
 unfold execOp; rw [ho]
 simp [hf.ev hx, Instr.loadAt, Instr.sureAddr, loadVar, ht w, hc]
theorem run_loadCells_seg {w : World} {b off m : Nat} {l vs : List Value} {e : TypeId} {fr : Nat × Nat} (hg : w.heap[b]? = some (.cells l.toArray e fr))
  (hv : seg? l off m = some vs) : (loadCells ⟨b, off, none⟩ m).run P w = .ok vs.toArray w := by
 obtain ⟨h1, h2⟩ := seg?_eq l off m hv
 have hl : vs.length = m := by rw [h2]; simp; omega
 rw [← hl]
 refine run_loadCells_list (P := P) w ⟨b, off, none⟩ vs (fun j v hj => ?_)
 rw [Addr.add_none', cell_of_row w b (off + j) _ e fr hg]
 have hjm : j < m := by rw [← hl]; exact (List.getElem?_eq_some_iff.1 hj).1
 rw [h2, List.getElem?_take, if_pos hjm, List.getElem?_drop] at hj
 simpa using hj
theorem OpVal.loadN {t ty : TypeId} {x : Operand} {b off m : Nat} {l : List Value} {e : TypeId} {fr : Nat × Nat} {vs : List Value}
  (ht : IsAgg P t true) (hz : SizeOf P t m) (hx : ev? ρ x = some (.pointer (some ⟨b, off, none⟩))) (hb : At R L b (.cells l.toArray e fr))
  (hv : seg? l off m = some vs) : OpVal P n R cx (.load t x) ty ρ L (.agg vs.toArray) := by
 refine ⟨fun oo a w ho hty hf hs => ?_⟩
 have hl := run_loadCells_seg (P := P) (hb.heap hs) hv
 unfold execOp; rw [ho]
 simp [hf.ev hx, Instr.loadAt, Instr.sureAddr, loadVar, ht w, hz w, hl]
theorem OpVal.arith {op : BinOp} {t t' ty : TypeId} {x y : Operand} {kk : IntKind} {i j r : Int} (hx : ev? ρ x = some (.int kk i)) (hy : ev? ρ y = some (.int kk j))
  (hr : (op = .add ∧ kk.wrap (i + j) = r) ∨ (op = .sub ∧ kk.wrap (i - j) = r) ∨ (op = .mul ∧ kk.wrap (i * j) = r)) : OpVal P n R cx (.binOp op t x y t') ty ρ L (.int kk r) := by
 refine ⟨fun oo a w ho hty hf hs => ?_⟩
 unfold execOp; rw [ho]
 rcases hr with ⟨rfl, rfl⟩ | ⟨rfl, rfl⟩ | ⟨rfl, rfl⟩ <;> simp [hf.ev hx, hf.ev hy, eqGuard, binOp, Op.intArith]
theorem OpVal.add {t t' ty : TypeId} {x y : Operand} {kk : IntKind} {i j r : Int} (hx : ev? ρ x = some (.int kk i)) (hy : ev? ρ y = some (.int kk j)) (hr : kk.wrap (i + j) = r) :
  OpVal P n R cx (.binOp .add t x y t') ty ρ L (.int kk r) := .arith hx hy (.inl ⟨rfl, hr⟩)
theorem OpVal.sub {t t' ty : TypeId} {x y : Operand} {kk : IntKind} {i j r : Int} (hx : ev? ρ x = some (.int kk i)) (hy : ev? ρ y = some (.int kk j)) (hr : kk.wrap (i - j) = r) :
  OpVal P n R cx (.binOp .sub t x y t') ty ρ L (.int kk r) := .arith hx hy (.inr (.inl ⟨rfl, hr⟩))
theorem OpVal.mul {t t' ty : TypeId} {x y : Operand} {kk : IntKind} {i j r : Int} (hx : ev? ρ x = some (.int kk i)) (hy : ev? ρ y = some (.int kk j)) (hr : kk.wrap (i * j) = r) :
  OpVal P n R cx (.binOp .mul t x y t') ty ρ L (.int kk r) := .arith hx hy (.inr (.inr ⟨rfl, hr⟩))
theorem OpVal.rem {t t' ty : TypeId} {x y : Operand} {kk : IntKind} {i j r : Int} (hx : ev? ρ x = some (.int kk i)) (hy : ev? ρ y = some (.int kk j)) (h0 : j ≠ 0) (hr : i.tmod j = r) :
  OpVal P n R cx (.binOp .rem t x y t') ty ρ L (.int kk r) := by
 refine ⟨fun oo a w ho hty hf hs => ?_⟩
 unfold execOp; rw [ho]; subst hr
 simp [hf.ev hx, hf.ev hy, eqGuard, binOp, Op.intDiv, h0]
theorem OpVal.neg {t ty : TypeId} {x : Operand} {kk : IntKind} {i r : Int} (hx : ev? ρ x = some (.int kk i)) (hr : kk.wrap (-i) = r) :
  OpVal P n R cx (.unOp .neg t x) ty ρ L (.int kk r) := by
 refine ⟨fun oo a w ho hty hf hs => ?_⟩
 unfold execOp; rw [ho]; subst hr
 simp [hf.ev hx, Op.unary, Op.intArith]
theorem OpVal.pickT {c x y : Operand} {ty : TypeId} {b : Bool} {v : Value} (hc : ev? ρ c = some (.bool b)) (hb : b = true) (hx : ev? ρ x = some v) :
  OpVal P n R cx (.pick c x y) ty ρ L v := by
 refine ⟨fun oo a w ho hty hf hs => ?_⟩
 unfold execOp; rw [ho]; subst hb
 simp [hf.ev hc, hf.ev hx, asBool]
theorem OpVal.pickF {c x y : Operand} {ty : TypeId} {b : Bool} {v : Value} (hc : ev? ρ c = some (.bool b)) (hb : b = false) (hy : ev? ρ y = some v) :
  OpVal P n R cx (.pick c x y) ty ρ L v := by
 refine ⟨fun oo a w ho hty hf hs => ?_⟩
 unfold execOp; rw [ho]; subst hb
 simp [hf.ev hc, hf.ev hy, asBool]
theorem OpVal.indexSl {t e ty : TypeId} {x y : Operand} {b off len cap m j : Nat} {kk : IntKind} {i : Int}
  (hx : ev? ρ x = some (.slice (some ⟨b, off, none⟩) len cap)) (hy : ev? ρ y = some (.int kk i)) (ht : P.underlying t = some (.slice e)) (hz : SizeOf P e m)
  (hi : i = (j : Int)) (hj : j < len) : OpVal P n R cx (.indexAddr t x y) ty ρ L (.pointer (some ⟨b, off + j * m, none⟩)) := by
 refine ⟨fun oo a w ho hty hf hs => ?_⟩
 unfold execOp; rw [ho]; subst hi
 simp [hf.ev hx, hf.ev hy, Instr.indexAt, asIntOf, underlying, ht, hz w, hj, Addr.add_none']
theorem OpVal.indexAr {t e ty : TypeId} {x y : Operand} {b off len m j : Nat} {kk : IntKind} {i : Int}
  (hx : ev? ρ x = some (.pointer (some ⟨b, off, none⟩))) (hy : ev? ρ y = some (.int kk i)) (ht : P.underlying t = some (.array len e)) (hz : SizeOf P e m)
  (hi : i = (j : Int)) (hj : j < len) : OpVal P n R cx (.indexAddr t x y) ty ρ L (.pointer (some ⟨b, off + j * m, none⟩)) := by
 refine ⟨fun oo a w ho hty hf hs => ?_⟩
 unfold execOp; rw [ho]; subst hi
 simp [hf.ev hx, hf.ev hy, Instr.indexAt, asIntOf, underlying, ht, hz w, hj, Addr.add_none', Instr.sureAddr]
theorem OpVal.index1 {t e ty : TypeId} {x y : Operand} {l : List Value} {len j : Nat} {kk : IntKind} {i : Int} {v : Value}
  (hx : ev? ρ x = some (.agg l.toArray)) (hy : ev? ρ y = some (.int kk i)) (ht : P.underlying t = some (.array len e)) (ha : IsAgg P e false) (hz : SizeOf P e 1)
  (hi : i = (j : Int)) (hj : j < len) (hv : l[j]? = some v) : OpVal P n R cx (.index t x y) ty ρ L v := by
 refine ⟨fun oo a w ho hty hf hs => ?_⟩
 unfold execOp; rw [ho]; subst hi
 simp [hf.ev hx, hf.ev hy, Instr.index, asIntOf, underlying, ht, hz w, hj, part, ha w, hv]
theorem OpVal.eqOf {op : BinOp} {t t' ty : TypeId} {x y : Operand} {u v r : Value} (hx : ev? ρ x = some u) (hy : ev? ρ y = some v)
  (hr : ∀ w, (do eqGuard op t x y u v; binOp op t u v : Sem Value).run P w = .ok r w) : OpVal P n R cx (.binOp op t x y t') ty ρ L r := by
 refine ⟨fun oo a w ho hty hf hs => ?_⟩
 unfold execOp; rw [ho]
 simp only [hf.ev hx, hf.ev hy]
 rw [Sem.run_bind, hr w]
 rfl
theorem OpVal.convInt {s d ty : TypeId} {x : Operand} {k0 kk : IntKind} {sd : TypeDesc} {i r : Int} (hx : ev? ρ x = some (.int k0 i)) (hs : P.underlying s = some sd) (hd : P.underlying d = some (.int kk)) (hr : kk.wrap i = r) :
  OpVal P n R cx (.convert s d x) ty ρ L (.int kk r) := by
 refine ⟨fun oo a w ho hty hf hs' => ?_⟩
 unfold execOp; rw [ho]; subst hr
 simp [hf.ev hx, convert, underlying, hs, hd, Conv.intToInt]
def ldv? (T : Tab) (t : Nat) (l : List Value) (off : Nat) : Option Value :=
 match look? T.tys t with
 | some (false, _) => l[off]?
 | some (true, m) => match seg? l off m with
  | some vs => some (.agg ⟨vs⟩)
  | none => none
 | none => none
theorem OpVal.load {T : Tab} (hT : TabOk P T) {t ty : TypeId} {x : Operand} {b off : Nat} {l : List Value} {e : TypeId} {fr : Nat × Nat} {v : Value}
  (hx : ev? ρ x = some (.pointer (some ⟨b, off, none⟩))) (hb : At R L b (.cells l.toArray e fr)) (hv : ldv? T t l off = some v) :
  OpVal P n R cx (.load t x) ty ρ L v := by
 unfold ldv? at hv
 split at hv
 ·
  rename_i m hm
  exact OpVal.load1 (hT.tys _ (look?_mem hm)).1 hx hb hv
 ·
  rename_i m hm
  split at hv
  ·
   rename_i vs hvs
   cases hv
   exact OpVal.loadN (hT.tys _ (look?_mem hm)).1 (hT.tys _ (look?_mem hm)).2 hx hb hvs
  · cases hv
 · cases hv
def natOf? : Int → Option Nat
 | .ofNat j => some j
 | .negSucc _ => none
theorem natOf?_eq {i : Int} {j : Nat} (h : natOf? i = some j) : i = (j : Int) := by
 cases i with
 | ofNat m => simp only [natOf?, Option.some.injEq] at h; subst h; rfl
 | negSucc m => cases h
theorem OpVal.ixSl {T : Tab} (hT : TabOk P T) {t e ty : TypeId} {x y : Operand} {b off len cap m j : Nat} {ag : Bool} {kk : IntKind} {i : Int}
  (hx : ev? ρ x = some (.slice (some ⟨b, off, none⟩) len cap)) (hy : ev? ρ y = some (.int kk i)) (ht : look? T.sls t = some e) (hz : look? T.tys e = some (ag, m))
  (hi : natOf? i = some j) (hj : j < len) : OpVal P n R cx (.indexAddr t x y) ty ρ L (.pointer (some ⟨b, off + j * m, none⟩)) :=
 OpVal.indexSl hx hy (hT.sls _ (look?_mem ht)) (hT.tys _ (look?_mem hz)).2 (natOf?_eq hi) hj
theorem OpVal.ix1 {T : Tab} (hT : TabOk P T) {t e ty : TypeId} {x y : Operand} {l : List Value} {len j : Nat} {kk : IntKind} {i : Int} {v : Value}
  (hx : ev? ρ x = some (.agg l.toArray)) (hy : ev? ρ y = some (.int kk i)) (ht : look? T.ars t = some (len, e)) (hz : look? T.tys e = some (false, 1))
  (hi : natOf? i = some j) (hj : j < len) (hv : l[j]? = some v) : OpVal P n R cx (.index t x y) ty ρ L v :=
 OpVal.index1 hx hy (hT.ars _ (look?_mem ht)) (hT.tys _ (look?_mem hz)).1 (hT.tys _ (look?_mem hz)).2 (natOf?_eq hi) hj hv
theorem run_equal_of {t : TypeId} {x y : Value} {b : Bool} {w : World} (h : ∀ d, (Op.equalIn (d + 1) t x y).run P w = .ok b w) : (Op.equal t x y).run P w = .ok b w := h 9999
theorem OpVal.eqBool {T : Tab} (hT : TabOk P T) {t t' ty : TypeId} {x y : Operand} {a b : Bool} (hx : ev? ρ x = some (.bool a)) (hy : ev? ρ y = some (.bool b)) (ht : hasNat T.bools t = true) :
  OpVal P n R cx (.binOp .eql t x y t') ty ρ L (.bool (a == b)) :=
 .eqOf hx hy fun w => by
  have := hT.bools _ (hasNat_mem ht)
  have h := run_equal_of (P := P) (t := t) (x := .bool a) (y := .bool b) (b := a == b) (w := w) (fun d => by simp [Op.equalIn, underlying, this])
  simp [eqGuard, binOp, h]
theorem OpVal.neBool {T : Tab} (hT : TabOk P T) {t t' ty : TypeId} {x y : Operand} {a b : Bool} (hx : ev? ρ x = some (.bool a)) (hy : ev? ρ y = some (.bool b)) (ht : hasNat T.bools t = true) :
  OpVal P n R cx (.binOp .neq t x y t') ty ρ L (.bool (!(a == b))) :=
 .eqOf hx hy fun w => by
  have := hT.bools _ (hasNat_mem ht)
  have h := run_equal_of (P := P) (t := t) (x := .bool a) (y := .bool b) (b := a == b) (w := w) (fun d => by simp [Op.equalIn, underlying, this])
  simp [eqGuard, binOp, h]
theorem OpVal.eqStr {t t' ty : TypeId} {x y : Operand} {a b : ByteArray} (hx : ev? ρ x = some (.string a)) (hy : ev? ρ y = some (.string b)) :
  OpVal P n R cx (.binOp .eql t x y t') ty ρ L (.bool (a.toList == b.toList)) :=
 .eqOf hx hy fun w => by simp [eqGuard, binOp, Op.stringOp]
theorem OpVal.neStr {t t' ty : TypeId} {x y : Operand} {a b : ByteArray} (hx : ev? ρ x = some (.string a)) (hy : ev? ρ y = some (.string b)) :
  OpVal P n R cx (.binOp .neq t x y t') ty ρ L (.bool (!(a.toList == b.toList))) :=
 .eqOf hx hy fun w => by simp [eqGuard, binOp, Op.stringOp]
theorem OpVal.eqNil {T : Tab} (hT : TabOk P T) {t t' ty : TypeId} {x y : Operand} {a : Option Addr} {e : Nat} (hx : ev? ρ x = some (.pointer a)) (hy : ev? ρ y = some (.pointer none)) (ht : look? T.ptrs t = some e) :
  OpVal P n R cx (.binOp .eql t x y t') ty ρ L (.bool a.isNone) :=
 .eqOf hx hy fun w => by
  have := hT.ptrs _ (look?_mem ht)
  have h := run_equal_of (P := P) (t := t) (x := .pointer a) (y := .pointer none) (b := a.isNone) (w := w) (fun d => by cases a <;> simp [Op.equalIn, underlying, this])
  simp [eqGuard, binOp, h]
theorem OpVal.neNil {T : Tab} (hT : TabOk P T) {t t' ty : TypeId} {x y : Operand} {a : Option Addr} {e : Nat} (hx : ev? ρ x = some (.pointer a)) (hy : ev? ρ y = some (.pointer none)) (ht : look? T.ptrs t = some e) :
  OpVal P n R cx (.binOp .neq t x y t') ty ρ L (.bool (!a.isNone)) :=
 .eqOf hx hy fun w => by
  have := hT.ptrs _ (look?_mem ht)
  have h := run_equal_of (P := P) (t := t) (x := .pointer a) (y := .pointer none) (b := a.isNone) (w := w) (fun d => by cases a <;> simp [Op.equalIn, underlying, this])
  simp [eqGuard, binOp, h]
theorem OpVal.eqNilSl {T : Tab} (hT : TabOk P T) {t t' ty : TypeId} {x y : Operand} {a : Option Addr} {u v e : Nat} (hx : ev? ρ x = some (.slice a u v)) (hy : ev? ρ y = some (.slice none 0 0)) (ht : look? T.sls t = some e) :
  OpVal P n R cx (.binOp .eql t x y t') ty ρ L (.bool a.isNone) :=
 .eqOf hx hy fun w => by
  have := hT.sls _ (look?_mem ht)
  have h := run_equal_of (P := P) (t := t) (x := .slice a u v) (y := .slice none 0 0) (b := a.isNone) (w := w) (fun d => by cases a <;> simp [Op.equalIn, underlying, this])
  simp [eqGuard, binOp, h]
theorem OpVal.conv {T : Tab} (hT : TabOk P T) {s d ty : TypeId} {x : Operand} {k0 k1 kk : IntKind} {i r : Int} (hx : ev? ρ x = some (.int k0 i)) (hs : look? T.ints s = some k1) (hd : look? T.ints d = some kk) (hr : kk.wrap i = r) :
  OpVal P n R cx (.convert s d x) ty ρ L (.int kk r) := .convInt hx (hT.ints _ (look?_mem hs)) (hT.ints _ (look?_mem hd)) hr
inductive Upd (b : Nat) (o o' : Obj) : List HL → List HL → Prop
 | here {L : List HL} : Upd b o o' ([(b, o)] :: L) ([(b, o')] :: L)
 | there {c : HL} {L L' : List HL} : Upd b o o' L L' → Upd b o o' (c :: L) (c :: L')
theorem Upd.split {b : Nat} {o o' : Obj} {L L' : List HL} (h : Upd b o o' L L') : ∃ A B : HL, L.flatten = A ++ (b, o) :: B ∧ L'.flatten = A ++ (b, o') :: B := by
 induction h with
 | here => exact ⟨[], _, rfl, rfl⟩
 | @there c _ _ _ ih =>
  obtain ⟨A, B, h1, h2⟩ := ih
  exact ⟨c ++ A, B, by simp [h1], by simp [h2]⟩
theorem St.upd {w0 w w' : World} {S0 : List Nat} {b : Nat} {o o' : Obj} {L L' : List HL} (hs : St w0 S0 R L w) (hu : Upd b o o' L L')
  (hb : w'.heap[b]? = some o') (ho : ∀ j, j ≠ b → w'.heap[j]? = w.heap[j]?) (hz : w'.heap.size = w.heap.size) (he : w'.os = w.os ∧ w'.tape = w.tape ∧ w'.output = w.output) : St w0 S0 R L' w' := by
 obtain ⟨A, B, h1, h2⟩ := hu.split
 have hnd := hs.nd
 have hown := hs.own
 have hhas := hs.has
 rw [h1] at hnd hown hhas
 have hids : ids L'.flatten = ids (A ++ (b, o) :: B) := by rw [h2]; simp [ids]
 have hne : ∀ p ∈ A ++ B, p.1 ≠ b := by
  intro p hp e
  have : (ids (A ++ (b, o) :: B)).Perm (b :: ids (A ++ B)) := by simp [ids]
  have h3 := this.nodup_iff.1 hnd
  simp only [List.nodup_cons] at h3
  exact h3.1 (by rw [← e]; exact List.mem_map_of_mem (f := (·.1)) hp)
 have hbo := hown b (by simp [ids])
 refine ⟨?_, by rw [hids]; exact hnd, ?_, by rw [hids]; exact hown, by rw [hz]; exact hs.sz, hs.ro, ⟨he.1.trans hs.env.1, he.2.1.trans hs.env.2.1, he.2.2.trans hs.env.2.2⟩⟩
 ·
  intro p hp
  rw [h2] at hp
  rcases List.mem_append.1 hp with hp | hp
  · rw [ho _ (hne p (by simp [hp]))]; exact hhas p (by simp [hp])
  ·
   rcases List.mem_cons.1 hp with rfl | hp
   · exact hb
   · rw [ho _ (hne p (by simp [hp]))]; exact hhas p (by simp [hp])
 ·
  intro j hj hjS
  have : j ≠ b := by
   rintro rfl
   rcases hbo with h | h
   · exact hjS h
   · omega
  rw [ho j this]
  exact hs.fr j hj hjS
theorem setRow_size (w : World) (g : Nat) (cs : Array Value) : (w.setRow g cs).heap.size = w.heap.size := by simp [World.setRow]
theorem run_storeCells_splice {w : World} {b off : Nat} {l l' vs : List Value} {e : TypeId} (hg : w.heap[b]? = some (.cells l.toArray e (0, 0)))
  (hv : splice? l off vs = some l') (h1 : allOne vs = true) : (storeCells ⟨b, off, none⟩ vs).run P w = .ok () (w.setRow b l'.toArray) := by
 obtain ⟨h2, h3⟩ := splice?_eq l off vs hv
 have := run_storeCells_at (P := P) b off e vs 0 l.toArray w hg (by simpa using h2) (allOne_mem h1)
 rw [this, h3]
 simp
theorem W.storeCells {all : Array Oper} {oo : Oper} {l : List Oper} {t : TypeId} {x y : Operand} {b off m : Nat} {L' : List HL} {cl cl' vs : List Value} {e : TypeId} {v : Value}
  (ho : oo.op = .store t x y) (hg : oo.guard = none) (hd : oo.dst = none)
  (hz : SizeOf P t m) (hx : ev? ρ x = some (.pointer (some ⟨b, off, none⟩))) (hy : ev? ρ y = some v) (hc : cells? v = some vs) (hl : vs.length = m) (h1 : allOne vs = true)
  (hv : splice? cl off vs = some cl') (hu : Upd b (.cells cl.toArray e (0, 0)) (.cells cl'.toArray e (0, 0)) L L')
  (hk : W P n R cx (.ops all l :: k) ρ L') : W P n R cx (.ops all (oo :: l) :: k) ρ L := by
 refine ⟨fun a w hf hs => ?_⟩
 obtain ⟨A, B, e1, -⟩ := hu.split
 have hb : w.heap[b]? = some (.cells cl.toArray e (0, 0)) := hs.has (b, .cells cl.toArray e (0, 0)) (by rw [e1]; simp)
 have hst := run_storeCells_splice (P := P) hb hv h1
 have hcs := cells?_eq hc
 simp only [mean, wpList, Region.wanted, hg, if_true]
 refine .inl ?_
 unfold Oper.wp execOp
 rw [ho]
 simp [hf.ev hx, hf.ev hy, Instr.storeAt, Instr.sureAddr, storeVar, hz w, hcs, hl, hst, hd, Oper.upon, Act.put]
 refine hk.go a _ hf (hs.upd hu (setRow_heap w b _ _ e _ hb) (fun j hj => setRow_other w b j _ hj) (setRow_size ..) ⟨rfl, rfl, rfl⟩)
theorem St.new {w0 w : World} {S0 : List Nat} {L : List HL} (hs : St w0 S0 R L w) (o : Obj) : St w0 S0 R ([(w.heap.size, o)] :: L) (w.alloc o) := by
 have hlt : ∀ p ∈ L.flatten, p.1 < w.heap.size := fun p hp => (Array.getElem?_eq_some_iff.1 (hs.has p hp)).1
 refine ⟨?_, ?_, ?_, ?_, by simpa using Nat.le_succ_of_le hs.sz, hs.ro, hs.env⟩
 ·
  intro p hp
  simp only [List.flatten_cons, List.singleton_append, List.mem_cons] at hp
  rcases hp with rfl | hp
  · exact heap_alloc_new w o
  · rw [heap_alloc_old w o (hlt p hp)]; exact hs.has p hp
 ·
  simp only [List.flatten_cons, List.singleton_append, ids, List.map_cons, List.nodup_cons]
  refine ⟨fun h => ?_, hs.nd⟩
  obtain ⟨p, hp, hp2⟩ := List.mem_map.1 h
  have := hlt p hp
  omega
 ·
  intro j hj hjS
  rw [heap_alloc_old w o (Nat.lt_of_lt_of_le hj hs.sz)]
  exact hs.fr j hj hjS
 ·
  intro j hj
  simp only [List.flatten_cons, List.singleton_append, ids, List.map_cons, List.mem_cons] at hj
  rcases hj with rfl | hj
  · exact .inr hs.sz
  · exact hs.own j hj
structure NewOf (P : Program) (n : Nat) (R : HL) (cx : Cx) (op : Op) (ty : TypeId) (ρ : Env) (L : List HL) (o : Obj) (f : Nat → Value) : Prop where
 go : ∀ (oo : Oper) a w, oo.op = op → oo.type = ty → Fits n ρ a → St cx.w0 cx.S0 R L w → ∃ m, (execOp a.eval oo).run P w = .ok (.value (f w.heap.size)) ({ w with drawn := m }.alloc o)
theorem W.newOf {all : Array Oper} {d : Nat} {op : Op} {ty : TypeId} {pos : String} {af : Array Edge} {l : List Oper} {o : Obj} {f : Nat → Value}
  (h : ∀ (oo : Oper) a w, oo.op = op → oo.type = ty → Fits n ρ a → St cx.w0 cx.S0 R L w → ∃ m, (execOp a.eval oo).run P w = .ok (.value (f w.heap.size)) ({ w with drawn := m }.alloc o)) (hd : d < n)
  (hk : ∀ b, W P n R cx (.ops all l :: k) ((d, f b) :: ρ) ([(b, o)] :: L)) : W P n R cx (.ops all (⟨some d, op, ty, pos, af, none⟩ :: l) :: k) ρ L := by
 refine ⟨fun a w hf hs => ?_⟩
 obtain ⟨m, hr⟩ := h ⟨some d, op, ty, pos, af, none⟩ a w rfl rfl hf hs
 simp only [mean, wpList, Region.wanted, if_true]
 refine .inl ?_
 unfold Oper.wp
 rw [hr]
 have hs' : St cx.w0 cx.S0 R L { w with drawn := m } := ⟨hs.has, hs.nd, hs.fr, hs.own, hs.sz, hs.ro, hs.env⟩
 exact (hk w.heap.size).go _ _ (hf.put hd _) (hs'.new o)
theorem W.store {T : Tab} (hT : TabOk P T) {all : Array Oper} {l : List Oper} {t ty : TypeId} {x y : Operand} {pos : String} {af : Array Edge} {b off m : Nat} {ag : Bool} {L' : List HL} {cl cl' vs : List Value} {e : TypeId} {v : Value}
  (hx : ev? ρ x = some (.pointer (some ⟨b, off, none⟩))) (hu : Upd b (.cells cl.toArray e (0, 0)) (.cells cl'.toArray e (0, 0)) L L')
  (hy : ev? ρ y = some v) (hc : cells? v = some vs) (hz : look? T.tys t = some (ag, m)) (hl : vs.length = m) (h1 : allOne vs = true)
  (hv : splice? cl off vs = some cl')
  (hk : W P n R cx (.ops all l :: k) ρ L') : W P n R cx (.ops all (⟨none, .store t x y, ty, pos, af, none⟩ :: l) :: k) ρ L :=
 W.storeCells (oo := ⟨none, .store t x y, ty, pos, af, none⟩) rfl rfl rfl (hT.tys _ (look?_mem hz)).2 hx hy hc hl h1 hv hu hk
theorem NewOf.alloc {t ty : TypeId} {z : Value} {zs : List Value} (hz : ZeroOf P t z) (hc : cells? z = some zs) :
  NewOf P n R cx (.alloc t) ty ρ L (.cells zs.toArray t (0, 0)) (fun b => .pointer (some ⟨b, 0, none⟩)) := by
 refine ⟨fun oo a w ho hty hf hs => ⟨w.drawn, ?_⟩⟩
 unfold execOp; rw [ho]
 show _ = Result.ok _ (w.alloc _)
 simp [Instr.alloc, hz w, newVar, newRow, cells?_eq hc]
theorem W.alloc {all : Array Oper} {d : Nat} {t ty : TypeId} {pos : String} {af : Array Edge} {l : List Oper} {z : Value} {zs : List Value}
  (hz : ZeroOf P t z) (hc : cells? z = some zs) (hd : d < n)
  (hk : ∀ b, W P n R cx (.ops all l :: k) ((d, .pointer (some ⟨b, 0, none⟩)) :: ρ) ([(b, .cells zs.toArray t (0, 0))] :: L)) :
  W P n R cx (.ops all (⟨some d, .alloc t, ty, pos, af, none⟩ :: l) :: k) ρ L := W.newOf (NewOf.alloc hz hc).go hd hk
theorem NewOf.new {T : Tab} (hT : TabOk P T) {t ty : TypeId} {z : Value} {zs : List Value} (hz : look? T.zeros t = some z) (hc : cells? z = some zs) :
  NewOf P n R cx (.alloc t) ty ρ L (.cells zs.toArray t (0, 0)) (fun b => .pointer (some ⟨b, 0, none⟩)) := NewOf.alloc (hT.zeros _ (look?_mem hz)) hc
theorem W.new {T : Tab} (hT : TabOk P T) {all : Array Oper} {d : Nat} {t ty : TypeId} {pos : String} {af : Array Edge} {l : List Oper} {z : Value} {zs : List Value}
  (hz : look? T.zeros t = some z) (hc : cells? z = some zs) (hd : d < n)
  (hk : ∀ b, W P n R cx (.ops all l :: k) ((d, .pointer (some ⟨b, 0, none⟩)) :: ρ) ([(b, .cells zs.toArray t (0, 0))] :: L)) :
  W P n R cx (.ops all (⟨some d, .alloc t, ty, pos, af, none⟩ :: l) :: k) ρ L := W.alloc (hT.zeros _ (look?_mem hz)) hc hd hk
theorem NewOf.box {t ty : TypeId} {x : Operand} {z : Value} {zs : List Value} (hx : ev? ρ x = some z) (hc : cells? z = some zs) :
  NewOf P n R cx (.box t x) ty ρ L (.cells zs.toArray t (0, 0)) (fun b => .pointer (some ⟨b, 0, none⟩)) := by
 refine ⟨fun oo a w ho hty hf hs => ⟨w.drawn, ?_⟩⟩
 unfold execOp; rw [ho]
 show _ = Result.ok _ (w.alloc _)
 simp [Instr.box, newVar, newRow, hf.ev hx, cells?_eq hc]
theorem W.box {all : Array Oper} {d : Nat} {t ty : TypeId} {x : Operand} {pos : String} {af : Array Edge} {l : List Oper} {z : Value} {zs : List Value}
  (hx : ev? ρ x = some z) (hc : cells? z = some zs) (hd : d < n)
  (hk : ∀ b, W P n R cx (.ops all l :: k) ((d, .pointer (some ⟨b, 0, none⟩)) :: ρ) ([(b, .cells zs.toArray t (0, 0))] :: L)) :
  W P n R cx (.ops all (⟨some d, .box t x, ty, pos, af, none⟩ :: l) :: k) ρ L := W.newOf (NewOf.box hx hc).go hd hk
theorem W.guardGo {all : Array Oper} {d : Option Nat} {op : Op} {ty : TypeId} {pos : String} {af : Array Edge} {l : List Oper} {j s : Nat} {want b : Bool}
  (hj : (all[j]?).bind (·.dst) = some s) (hb : ρ.get? s = some (.bool b)) (hw : b = want) (hk : W P n R cx (.ops all (⟨d, op, ty, pos, af, none⟩ :: l) :: k) ρ L) :
  W P n R cx (.ops all (⟨d, op, ty, pos, af, some (j, want)⟩ :: l) :: k) ρ L := by
 refine ⟨fun a w hf hs => ?_⟩
 have h := hk.go a w hf hs
 have hy : yielded all a.tmps j = some b := by
  have := hf.at_ s _ hb
  unfold yielded
  rw [hj]
  simp only [Option.bind_some]
  simp only [Array.getD_eq_getD_getElem?] at this
  cases hh : a.tmps[s]? with
  | none => rw [hh] at this; simp [undef] at this
  | some u => rw [hh] at this; simp at this; subst this; rfl
 simp only [mean, wpList] at h ⊢
 rw [if_pos (by simp [Region.wanted])] at h
 rw [if_pos (by simp [Region.wanted, hy, hw])]
 exact h
theorem W.guardSkip {all : Array Oper} {d : Nat} {op : Op} {ty : TypeId} {pos : String} {af : Array Edge} {l : List Oper} {j s : Nat} {want b : Bool}
  (hj : (all[j]?).bind (·.dst) = some s) (hb : ρ.get? s = some (.bool b)) (hw : b = !want) (hd : d < n) (hk : W P n R cx (.ops all l :: k) ((d, undef) :: ρ) L) :
  W P n R cx (.ops all (⟨some d, op, ty, pos, af, some (j, want)⟩ :: l) :: k) ρ L := by
 refine ⟨fun a w hf hs => ?_⟩
 have hy : yielded all a.tmps j = some b := by
  have := hf.at_ s _ hb
  unfold yielded
  rw [hj]
  simp only [Option.bind_some]
  simp only [Array.getD_eq_getD_getElem?] at this
  cases hh : a.tmps[s]? with
  | none => rw [hh] at this; simp [undef] at this
  | some u => rw [hh] at this; simp at this; subst this; rfl
 simp only [mean, wpList]
 rw [if_neg (by simp only [Region.wanted, hy, hw]; cases want <;> simp)]
 exact hk.go _ _ (hf.put hd _) hs
theorem W.guardUndef {all : Array Oper} {d : Nat} {op : Op} {ty : TypeId} {pos : String} {af : Array Edge} {l : List Oper} {j s : Nat} {want : Bool}
  (hj : (all[j]?).bind (·.dst) = some s) (hb : ρ.get? s = some undef) (hd : d < n) (hk : W P n R cx (.ops all l :: k) ((d, undef) :: ρ) L) :
  W P n R cx (.ops all (⟨some d, op, ty, pos, af, some (j, want)⟩ :: l) :: k) ρ L := by
 refine ⟨fun a w hf hs => ?_⟩
 have hy : yielded all a.tmps j = none := by
  have := hf.at_ s _ hb
  unfold yielded
  rw [hj]
  simp only [Option.bind_some]
  simp only [Array.getD_eq_getD_getElem?] at this
  cases hh : a.tmps[s]? with
  | none => rfl
  | some u => rw [hh] at this; simp at this; subst this; rfl
 simp only [mean, wpList]
 rw [if_neg (by simp [Region.wanted, hy])]
 exact hk.go _ _ (hf.put hd _) hs
theorem W.ite {c : Operand} {x y : Code} {b : Bool} (hc : ev? ρ c = some (.bool b)) (ht : b = true → W P n R cx (.code x :: k) ρ L) (hf : b = false → W P n R cx (.code y :: k) ρ L) :
  W P n R cx (.code (.cond c x y) :: k) ρ L :=
 ⟨fun a w hfi hs => wp_cond_split (hfi.ev hc) (fun h => (ht h).go a w hfi hs) (fun h => (hf h).go a w hfi hs)⟩
theorem W.iteT {c : Operand} {x y : Code} {b : Bool} (hc : ev? ρ c = some (.bool b)) (hb : b = true) (ht : W P n R cx (.code x :: k) ρ L) :
  W P n R cx (.code (.cond c x y) :: k) ρ L := W.ite hc (fun _ => ht) (fun h => by rw [hb] at h; cases h)
theorem W.iteF {c : Operand} {x y : Code} {b : Bool} (hc : ev? ρ c = some (.bool b)) (hb : b = false) (hf : W P n R cx (.code y :: k) ρ L) :
  W P n R cx (.code (.cond c x y) :: k) ρ L := W.ite hc (fun h => by rw [hb] at h; cases h) (fun _ => hf)
theorem W.env {ρ' : Env} (h : Env.sub ρ' ρ) (hk : W P n R cx k ρ' L) : W P n R cx k ρ L := ⟨fun a w hf hs => hk.go a w (hf.sub h) hs⟩
inductive Pick : List HL → HL → List HL → Prop
 | here {c : HL} {L : List HL} : Pick (c :: L) c L
 | there {c d : HL} {L L' : List HL} : Pick L c L' → Pick (d :: L) c (d :: L')
inductive Sel : List HL → List HL → List HL → Prop
 | nil {L : List HL} : Sel L [] L
 | cons {c : HL} {cs L L1 L2 : List HL} : Pick L c L1 → Sel L1 cs L2 → Sel L (c :: cs) L2
theorem Pick.perm {L L' : List HL} {c : HL} (h : Pick L c L') : L.flatten.Perm (c ++ L'.flatten) := by
 induction h with
 | here => simp
 | @there c d L L' _ ih =>
  simp only [List.flatten_cons]
  refine (List.Perm.append_left d ih).trans ?_
  rw [← List.append_assoc, ← List.append_assoc]
  exact List.Perm.append_right _ List.perm_append_comm
theorem Sel.perm {L M L' : List HL} (h : Sel L M L') : L.flatten.Perm (M.flatten ++ L'.flatten) := by
 induction h with
 | nil => simp
 | cons hp _ ih =>
  simp only [List.flatten_cons, List.append_assoc]
  exact hp.perm.trans (List.Perm.append_left _ ih)
theorem St.perm {w0 w : World} {S0 : List Nat} {L M : List HL} {X : HL} (hs : St w0 S0 R L w) (h : L.flatten.Perm (M.flatten ++ X)) : St w0 S0 R M w := by
 have hi : (ids L.flatten).Perm (ids M.flatten ++ ids X) := by simpa [ids] using h.map (·.1)
 refine ⟨fun p hp => hs.has p (h.mem_iff.2 (by simp [hp])), ?_, hs.fr, fun b hb => hs.own b (hi.mem_iff.2 (by simp [hb])), hs.sz, hs.ro, hs.env⟩
 exact (List.nodup_append.1 (hi.nodup_iff.1 hs.nd)).1
theorem W.keep {M L' : List HL} (h : Sel L M L') (hk : W P n R cx k ρ M) : W P n R cx k ρ L := ⟨fun a w hf hs => hk.go a w hf (hs.perm h.perm)⟩
theorem W.regroup {M : List HL} (h : L.flatten = M.flatten) (hk : W P n R cx k ρ M) : W P n R cx k ρ L :=
 ⟨fun a w hf hs => hk.go a w hf (hs.perm (X := []) (by rw [h]; simp))⟩
def norm? {α : Type} : List α → Option (List α)
 | [] => some []
 | c :: r => match norm? r with
  | some r' => some (c :: r')
  | none => none
theorem norm?_eq {α : Type} : ∀ {l l' : List α}, norm? l = some l' → l = l'
 | [], _, h => by cases h; rfl
 | c :: r, l', h => by
  simp only [norm?] at h
  split at h
  ·
   rename_i r' hr
   cases h
   rw [norm?_eq hr]
  · cases h
theorem W.step {T : Tab} (hT : TabOk P T) {s s' : List Kont} {ρ ρ' : Env} {L L' : List HL} (h1 : Sl.drive T n 3000 s ρ = some (s', ρ')) (h2 : norm? L = some L') (h : W P n R cx s' ρ' L') : W P n R cx s ρ L := by
 rw [norm?_eq h2]
 exact W.drive hT _ h1 h
theorem St.call {w0 w w' : World} {S0 : List Nat} {L pre rest L' : List HL} {ro : HL} (hs : St w0 S0 R L w) (h : Sel L pre rest) (hc : St w (ids pre.flatten) ro L' w') :
  St w0 S0 R (L' ++ rest) w' := by
 have hp := h.perm
 have hi : (ids L.flatten).Perm (ids pre.flatten ++ ids rest.flatten) := by simpa [ids] using hp.map (·.1)
 obtain ⟨n1, n2, n3⟩ := List.nodup_append.1 (hi.nodup_iff.1 hs.nd)
 have hrest : ∀ p ∈ rest.flatten, p.1 < w.heap.size ∧ p.1 ∉ ids pre.flatten ∧ w.heap[p.1]? = some p.2 := by
  intro p hpm
  have h1 := hs.has p (hp.mem_iff.2 (by simp [hpm]))
  exact ⟨(Array.getElem?_eq_some_iff.1 h1).1, fun hm => n3 _ hm _ (List.mem_map_of_mem (f := (·.1)) hpm) rfl, h1⟩
 refine ⟨?_, ?_, ?_, ?_, Nat.le_trans hs.sz hc.sz, hs.ro, ⟨hc.env.1.trans hs.env.1, hc.env.2.1.trans hs.env.2.1, hc.env.2.2.trans hs.env.2.2⟩⟩
 ·
  intro p hpm
  simp only [List.flatten_append, List.mem_append] at hpm
  rcases hpm with hpm | hpm
  · exact hc.has p hpm
  ·
   obtain ⟨h1, h2, h3⟩ := hrest p hpm
   rw [hc.fr _ h1 h2]
   exact h3
 ·
  simp only [List.flatten_append, ids, List.map_append]
  refine List.nodup_append.2 ⟨hc.nd, n2, fun x hx y hy e => ?_⟩
  subst e
  obtain ⟨p, hpm, rfl⟩ := List.mem_map.1 hy
  obtain ⟨h1, h2, -⟩ := hrest p hpm
  rcases hc.own _ hx with h | h
  · exact h2 h
  · omega
 ·
  intro b hb hbS
  have hb' : b ∉ ids pre.flatten := fun hm => by
   rcases hs.own b (hi.mem_iff.2 (by simp [hm])) with h | h
   · exact hbS h
   · omega
  rw [hc.fr b (Nat.lt_of_lt_of_le hb hs.sz) hb', hs.fr b hb hbS]
 ·
  intro b hb
  simp only [List.flatten_append, ids, List.map_append, List.mem_append] at hb
  rcases hb with hb | hb
  ·
   rcases hc.own b hb with h | h
   · exact hs.own b (hi.mem_iff.2 (by simp [h]))
   · exact .inr (Nat.le_trans hs.sz h)
  · exact hs.own b (hi.mem_iff.2 (List.mem_append.2 (.inr hb)))
def RoIn (R : HL) (rest : List HL) (ro : HL) : Prop := ∀ p ∈ ro, p ∈ rest.flatten ∨ p ∈ R
theorem RoIn.nil {rest : List HL} : RoIn R rest [] := fun _ h => by cases h
theorem RoIn.cons {rest : List HL} {b : Nat} {o : Obj} {ro : HL} (h : At R rest b o) (h2 : RoIn R rest ro) : RoIn R rest ((b, o) :: ro) := by
 intro p hp
 rcases List.mem_cons.1 hp with rfl | hp
 · exact h
 · exact h2 p hp
theorem RoIn.append {rest : List HL} {A B : HL} (h : RoIn R rest A) (h2 : RoIn R rest B) : RoIn R rest (A ++ B) := by
 intro p hp
 rcases List.mem_append.1 hp with hp | hp
 · exact h p hp
 · exact h2 p hp
theorem RoIn.own {rest : List HL} {H : HL} (i : Nat) (h : rest[i]? = some H) : RoIn R rest H := fun _ hp => .inl (List.mem_flatten.2 ⟨_, List.mem_of_getElem? h, hp⟩)
theorem RoIn.same {rest : List HL} : RoIn R rest R := fun _ hp => .inr hp
theorem Ctr.use {f : FuncId} {args : List Value} {pre rest : List HL} {ro : HL} {post : Value → List HL → Prop} (hsp : Ctr P f args pre ro post)
  {w0 w : World} {S0 : List Nat} (hs : St w0 S0 R L w) (h : Sel L pre rest) (hro : RoIn R rest ro) :
  Calls P f args.toArray w fun e w' => ∃ v L', e = .returned v ∧ post v L' ∧ St w0 S0 R (L' ++ rest) w' := by
 have hp := h.perm
 have hi : (ids L.flatten).Perm (ids pre.flatten ++ ids rest.flatten) := by simpa [ids] using hp.map (·.1)
 obtain ⟨n1, n2, n3⟩ := List.nodup_append.1 (hi.nodup_iff.1 hs.nd)
 refine (hsp.go w (fun p hpm => hs.has p (hp.mem_iff.2 (by simp [hpm]))) n1 (fun p hpm => ?_)).mono ?_
 ·
  rcases hro p hpm with h1 | h1
  · exact ⟨hs.has p (hp.mem_iff.2 (by simp [h1])), fun hm => n3 _ hm _ (List.mem_map_of_mem (f := (·.1)) h1) rfl⟩
  ·
   obtain ⟨h2, h3⟩ := hs.ro p h1
   have hlt := (Array.getElem?_eq_some_iff.1 h2).1
   refine ⟨by rw [hs.fr _ hlt h3]; exact h2, fun hm => ?_⟩
   rcases hs.own _ (hi.mem_iff.2 (List.mem_append.2 (.inl hm))) with h | h
   · exact h3 h
   · omega
 ·
  rintro e w' ⟨v, L', he, hpost, hst⟩
  exact ⟨v, L', he, hpost, hs.call h hst⟩
theorem W.call {all : Array Oper} {d : Nat} {c : Call} {ty : TypeId} {pos : String} {af : Array Edge} {l : List Oper} {fo : Operand} {xs : Array Operand} {tys : Array TypeId}
  {f : FuncId} {fst vs cap args : List Value} {pre rest : List HL} {ro : HL} {post : Value → List HL → Prop}
  (hc : c = ⟨.value fo, xs, tys⟩) (hfo : ev? ρ fo = some (.func (.func f) fst.toArray cap.toArray)) (hxs : evs? ρ xs.toList = some vs) (hargs : fst ++ vs ++ cap = args)
  (hsp : Ctr P f args pre ro post) (hsel : Sel L pre rest) (hro : RoIn R rest ro) (hd : d < n)
  (hk : ∀ v L', post v L' → W P n R cx (.ops all l :: k) ((d, v) :: ρ) (L' ++ rest)) :
  W P n R cx (.ops all (⟨some d, .call c, ty, pos, af, none⟩ :: l) :: k) ρ L := by
 refine ⟨fun a w hf hs => ?_⟩
 have hxs' := hf.evs hxs
 have hx : xs.map a.eval = vs.toArray := by cases xs; simp at hxs'; simp [hxs']
 simp only [mean, wpList, Region.wanted, if_true]
 refine .inl ?_
 unfold Oper.wp execOp
 subst hc
 have hcall := hsp.callable
 simp only [resolve, Deferred.ofValue, hf.ev hfo, hx, Sem.run_bind, Sem.run_pure, Result.andThen_ok, invoke]
 rw [show (fst.toArray ++ vs.toArray ++ cap.toArray) = args.toArray from by rw [← hargs]; simp, hcall]
 simp only [Oper.upon]
 refine (hsp.use hs hsel hro).mono ?_
 rintro e w' ⟨v, L', rfl, hpost, hst⟩
 exact (hk v L' hpost).go _ _ (hf.put hd v) hst
theorem OpVal.callX {c : Call} {ty : TypeId} {fo : Operand} {xs : Array Operand} {tys : Array TypeId} {f : FuncId} {vs : List Value} {v : Value}
  (hc : c = ⟨.value fo, xs, tys⟩) (hfo : ev? ρ fo = some (.func (.func f) #[] #[])) (hxs : evs? ρ xs.toList = some vs)
  (hr : ∀ w, (callFunc f vs.toArray).run P w = .ok (.value v) w) : OpVal P n R cx (.call c) ty ρ L v := by
 refine ⟨fun oo a w ho hty hf hs => ?_⟩
 have hxs' := hf.evs hxs
 have hx : xs.map a.eval = vs.toArray := by cases xs; simp at hxs'; simp [hxs']
 subst hc
 unfold execOp; rw [ho]
 simp only [resolve, Deferred.ofValue, hf.ev hfo, hx, Sem.run_bind, Sem.run_pure, Result.andThen_ok, invoke]
 rw [show ((#[] : Array Value) ++ vs.toArray ++ #[]) = vs.toArray from by simp, hr w]
theorem W.loop {c : Code} (I : Nat → Env → List HL → Prop) (m0 : Nat) (ρ0 : Env) (L0 : List HL) {X : List HL} (hsub : Env.sub ρ0 ρ) (hsel : Sel L L0 X) (h0 : I m0 ρ0 L0)
  (round : ∀ m ρ1 L1, I m ρ1 L1 → W P n R cx (.code c :: .rnd (fun ρ2 L2 => ∃ m', m' < m ∧ I m' ρ2 L2) :: k) ρ1 L1) : W P n R cx (.code (.loop c) :: k) ρ L := by
 refine ⟨fun a w hf hs => ?_⟩
 have hs0 := hs.perm hsel.perm
 have hf0 := hf.sub hsub
 let J : Nat → Act → World → Prop := fun m a w => ∃ ρ1 L1, I m ρ1 L1 ∧ Fits n ρ1 a ∧ St cx.w0 cx.S0 R L1 w
 have key : ∀ (m : Nat) (a : Act) (w : World), J m a w → ∀ (b : Frame) (kk : List Item) (cs : List Frame),
   ∃ e a' w', mean P n R cx k e a' w' ∧ Arrives P (lone (b.at a (.code c :: .inLoop c :: kk)) cs w) b kk cs e a' w' := by
  intro m
  induction m using Nat.strongRecOn with
  | _ m ih =>
   intro a w hJ b kk cs
   obtain ⟨ρ1, L1, hI, hf1, hs1⟩ := hJ
   have hr := (round m ρ1 L1 hI).go a w hf1 hs1
   simp only [mean] at hr
   obtain ⟨e, a1, w1, hq, harr⟩ := hr b (.inLoop c :: kk) cs
   cases e with
   | normal =>
    obtain ⟨ρ2, L2, ⟨m', hm', hI'⟩, hf2, hs2⟩ := hq
    obtain ⟨e2, a2, w2, hq2, harr2⟩ := ih m' hm' a1 w1 ⟨ρ2, L2, hI', hf2, hs2⟩ b kk cs
    exact ⟨e2, a2, w2, hq2, .of_steps (Steps.trans harr (.one step_inLoop)) harr2⟩
   | exit id => exact ⟨_, a1, w1, hq, .pass (x := .inLoop c) rfl (fun _ _ => .inl (by simp)) harr⟩
   | goto l => exact ⟨_, a1, w1, hq, .pass (x := .inLoop c) rfl (fun _ _ => .inl (by simp)) harr⟩
   | ret => exact ⟨_, a1, w1, hq, .pass (x := .inLoop c) rfl (fun _ _ => .inl (by simp)) harr⟩
   | panic ch => exact ⟨_, a1, w1, hq, .pass (x := .inLoop c) rfl (fun _ _ => .inl (by simp)) harr⟩
   | outgrown => exact ⟨_, a1, w1, hq, .pass (x := .inLoop c) rfl (fun _ _ => .inl (by simp)) harr⟩
 intro b kk cs
 obtain ⟨e, a', w', hq, harr⟩ := key m0 a w ⟨ρ0, L0, h0, hf0, hs0⟩ b kk cs
 exact ⟨e, a', w', hq, .of_steps (.one step_loop) harr⟩
theorem W.rnd {J : Env → List HL → Prop} (ρ1 : Env) (L1 : List HL) {X : List HL} (hsub : Env.sub ρ1 ρ) (hsel : Sel L L1 X) (h : J ρ1 L1) : W P n R cx (.rnd J :: k) ρ L :=
 ⟨fun _ _ hf hs => ⟨ρ1, L1, h, hf.sub hsub, hs.perm hsel.perm⟩⟩
theorem wp_mono2 {o : Oper} {a : Act} {w : World} {K K' : Act → World → Prop} {Q Q' : Exit → Act → World → Prop} (h : ∀ a w, K a w → K' a w) (hq : ∀ e a w, Q e a w → Q' e a w)
  (hh : o.wp P a w K Q) : o.wp P a w K' Q' := by
 unfold Oper.wp at *
 generalize (execOp a.eval o).run P w = r at *
 cases r with
 | ok nx w' =>
  cases nx <;> simp only [Oper.upon] at hh ⊢ <;> try exact hh
  case value => exact h _ _ hh
  case skip => exact h _ _ hh
  case defer => exact h _ _ hh
  case enter =>
   refine hh.mono fun e w'' he => ?_
   cases e with
   | returned v => exact h _ _ he
   | panicked ch => exact hq _ _ _ he
   | outgrown => obtain ⟨a0, w0, h0⟩ := he; exact ⟨a0, w0, hq _ _ _ h0⟩
  case row => exact hh.mono fun _ _ he => h _ _ he
 | halt x w' =>
  cases x <;> simp only [Oper.upon] at hh ⊢ <;> try exact hh
  exact hq _ _ _ hh
theorem wpList_mono' {ops : Array Oper} {Q Q' : Exit → Act → World → Prop} (hq : ∀ e a w, Q e a w → Q' e a w) :
  ∀ (l : List Oper) (a : Act) (w : World), wpList P ops Q l a w → wpList P ops Q' l a w
 | [], _, _, h => hq _ _ _ h
 | o :: l, a, w, h => by
  simp only [wpList] at h ⊢
  split
  ·
   rename_i hg
   rw [if_pos hg] at h
   rcases h with h | ⟨h1, a0, w0, h2⟩
   · exact .inl (wp_mono2 (fun a w hh => wpList_mono' hq l a w hh) hq h)
   · exact .inr ⟨h1, a0, w0, hq _ _ _ h2⟩
  ·
   rename_i hg
   rw [if_neg hg] at h
   exact wpList_mono' hq l _ w h
theorem W.cut {x : Kont} (J : Env → List HL → Prop) (hx : W P n R cx (x :: .rnd J :: k) ρ L) (hk : ∀ ρ1 L1, J ρ1 L1 → W P n R cx k ρ1 L1) (hp : match x with | .blk _ => False | .scp => False | _ => True) :
  W P n R cx (x :: k) ρ L := by
 refine ⟨fun a w hf hs => ?_⟩
 have h := hx.go a w hf hs
 have hm : ∀ e a w, mean P n R cx (.rnd J :: k) e a w → mean P n R cx k e a w := by
  intro e a w he
  cases e with
  | normal =>
   obtain ⟨ρ1, L1, hJ, hf1, hs1⟩ := he
   exact (hk ρ1 L1 hJ).go a w hf1 hs1
  | _ => exact he
 cases x with
 | code c => exact wp_mono h hm
 | blk id => exact hp.elim
 | scp => exact hp.elim
 | ops all l =>
  simp only [mean] at h ⊢
  exact wpList_mono' hm l a w h
 | rnd J' => exact h
inductive ResOk (P : Program) (R : HL) (ρ : Env) (L : List HL) : List ResultVar → List Value → Prop
 | nil : ResOk P R ρ L [] []
 | tmp {t : Nat} {v : Value} {rs : List ResultVar} {vs : List Value} : ρ.get? t = some v → ResOk P R ρ L rs vs → ResOk P R ρ L (.tmp t :: rs) (v :: vs)
 | cell1 {t ty b off : Nat} {l : List Value} {e : TypeId} {fr : Nat × Nat} {v : Value} {rs : List ResultVar} {vs : List Value} :
   IsAgg P ty false → ρ.get? t = some (.pointer (some ⟨b, off, none⟩)) → At R L b (.cells l.toArray e fr) → l[off]? = some v → ResOk P R ρ L rs vs → ResOk P R ρ L (.cell t ty :: rs) (v :: vs)
 | cellN {t ty b off m : Nat} {l us : List Value} {e : TypeId} {fr : Nat × Nat} {rs : List ResultVar} {vs : List Value} :
   IsAgg P ty true → SizeOf P ty m → ρ.get? t = some (.pointer (some ⟨b, off, none⟩)) → At R L b (.cells l.toArray e fr) → seg? l off m = some us → ResOk P R ρ L rs vs → ResOk P R ρ L (.cell t ty :: rs) (.agg us.toArray :: vs)
theorem ResOk.cell {T : Tab} (hT : TabOk P T) {t ty b off : Nat} {l : List Value} {e : TypeId} {fr : Nat × Nat} {v : Value} {rs : List ResultVar} {vs : List Value}
  (h : ρ.get? t = some (.pointer (some ⟨b, off, none⟩))) (hb : At R L b (.cells l.toArray e fr)) (hv : ldv? T ty l off = some v) (hr : ResOk P R ρ L rs vs) : ResOk P R ρ L (.cell t ty :: rs) (v :: vs) := by
 unfold ldv? at hv
 split at hv
 ·
  rename_i m hm
  exact .cell1 (hT.tys _ (look?_mem hm)).1 h hb hv hr
 ·
  rename_i m hm
  split at hv
  ·
   rename_i us hus
   cases hv
   exact .cellN (hT.tys _ (look?_mem hm)).1 (hT.tys _ (look?_mem hm)).2 h hb hus hr
  · cases hv
 · cases hv
def pack : List Value → Value
 | [v] => v
 | vs => .tuple vs.toArray
def resF (a : Act) : ResultVar → Sem Value
 | .tmp t => pure (a.tmps.getD t undef)
 | .cell p t => do loadVar t (← asAddr (a.tmps.getD p undef))
theorem mapM_step {f : ResultVar → Sem Value} {r : ResultVar} {rs : List ResultVar} {v : Value} {vs : List Value} {w : World} (h1 : (f r).run P w = .ok v w) (h2 : (rs.mapM f).run P w = .ok vs w) :
  ((r :: rs).mapM f).run P w = .ok (v :: vs) w := by
 rw [List.mapM_cons, Sem.run_bind, h1]
 simp only [Result.andThen_ok]
 rw [Sem.run_bind, h2]
 rfl
theorem ResOk.run {rs : List ResultVar} {vs : List Value} (h : ResOk P R ρ L rs vs) {a : Act} {w : World} (hf : Fits n ρ a) {w0 : World} {S0 : List Nat} (hs : St w0 S0 R L w) :
  (rs.mapM (resF a)).run P w = .ok vs w := by
 induction h with
 | nil => rfl
 | tmp h1 _ ih =>
  refine mapM_step ?_ ih
  simp only [resF, hf.at_ _ _ h1]
  rfl
 | @cell1 t ty b off l e fr v rs vs ht h1 hb hv _ ih =>
  have hc : w.cell? ⟨b, off, none⟩ = some v := by rw [cell_of_row w b off _ e fr (hb.heap hs)]; simpa using hv
  refine mapM_step ?_ ih
  simp only [resF, hf.at_ _ _ h1]
  simp [asAddr, loadVar, ht w, hc]
 | @cellN t ty b off m l us e fr rs vs ht hz h1 hb hv _ ih =>
  have hl := run_loadCells_seg (P := P) (hb.heap hs) hv
  refine mapM_step ?_ ih
  simp only [resF, hf.at_ _ _ h1]
  simp [asAddr, loadVar, ht w, hz w, hl]
theorem W.ret (h : Fin n R cx ρ L) : W P n R cx (.code .ret :: k) ρ L := ⟨fun a w hf hs => wp_ret (mean_ret k a w (h.go a w hf hs))⟩
def EnvOk (args : List Value) : Env → Prop
 | [] => True
 | (t, v) :: r => args[t]? = some v ∧ EnvOk args r
theorem EnvOk.get {args : List Value} : ∀ {ρ : Env}, EnvOk args ρ → ∀ {t : Nat} {v : Value}, ρ.get? t = some v → args[t]? = some v
 | [], _, _, _, h => by cases h
 | (k, u) :: r, he, t, v, h => by
  simp only [Env.get?] at h
  split at h
  · rename_i hk; subst hk; cases h; exact he.1
  · exact EnvOk.get he.2 h
structure FinOk (P : Program) (R : HL) (rs : List ResultVar) (post : Value → List HL → Prop) (ρ : Env) (L : List HL) : Prop where
 go : ∃ vs L', ResOk P R ρ L rs vs ∧ (∃ X : HL, L.flatten.Perm (L'.flatten ++ X)) ∧ post (pack vs) L'
theorem FinOk.mk' {rs : List ResultVar} {post : Value → List HL → Prop} {vs : List Value} {M X : List HL} (L' : List HL) (h : ResOk P R ρ L rs vs) (hsel : Sel L M X) (hm : M.flatten = L'.flatten)
  (hp : post (pack vs) L') : FinOk P R rs post ρ L := ⟨⟨vs, L', h, ⟨X.flatten, by rw [← hm]; exact hsel.perm⟩, hp⟩⟩
theorem Ctr.enter {f : FuncId} {fn : Func} {c : Code} {args : List Value} {pre : List HL} {ro : HL} {post : Value → List HL → Prop} (rs : List ResultVar) (ρ0 : Env)
  (hf : P.funcs[f]? = some fn) (hb : fn.body = some c) (hn : fn.ntmps = n) (hr : fn.results.toList = rs) (hl : args.length ≤ n)
  (hcall : ∀ (args : Array Value) (w : World), (callFunc f args).run P w = .ok (.enter f args) w) (he : EnvOk args ρ0)
  (h : ∀ cx : Cx, (∀ ρ L, FinOk P ro rs post ρ L → Fin n ro cx ρ L) → (∀ ρ L, FinOk P ro rs post ρ L → W P n ro cx [] ρ L) → W P n ro cx [.code c] ρ0 pre) : Ctr P f args pre ro post := by
 refine ⟨hcall, fun w hhas hnd hro => ?_⟩
 refine calls_of_wp hf hb ?_
 let Rr : Ending → World → Prop := fun e w' => ∃ v L', e = .returned v ∧ post v L' ∧ St w (ids pre.flatten) ro L' w'
 let cx : Cx := ⟨w, ids pre.flatten, bodyPost P fn Rr⟩
 have fin : ∀ (ρ : Env) (L : List HL) a w', FinOk P ro rs post ρ L → Fits n ρ a → St w (ids pre.flatten) ro L w' → a.defers = [] ∧ ∃ v, (results fn a.tmps).run P w' = .ok v w' ∧ Rr (.returned v) w' := by
  intro ρ L a w' hfin hfi hs
  obtain ⟨vs, L', hres, ⟨X, hX⟩, hpost⟩ := hfin.go
  have hrun := hres.run (P := P) hfi hs
  refine ⟨hfi.df, pack vs, ?_, pack vs, L', rfl, hpost, hs.perm hX⟩
  have hm : (fn.results.mapM (resF a) : Sem (Array Value)).run P w' = .ok vs.toArray w' := by
   rw [Array.mapM_eq_mapM_toList, hr]
   simp only [Sem.run_map]
   rw [hrun]
   rfl
  have hres' : results fn a.tmps = (do let vs ← fn.results.mapM (resF a); pure (if h : vs.size = 1 then vs[0] else .tuple vs) : Sem Value) := by
   unfold results
   congr 1
  rw [hres', Sem.run_bind, hm]
  match vs with
  | [] => rfl
  | [v] => rfl
  | v :: u :: r => simp [pack]
 have hW := h cx (fun ρ L hfin => ⟨fun a w' hfi hs => fin ρ L a w' hfin hfi hs⟩) (fun ρ L hfin => ⟨fun a w' hfi hs => fin ρ L a w' hfin hfi hs⟩)
 have hst : St w (ids pre.flatten) ro pre w := ⟨hhas, hnd, fun _ _ _ => rfl, fun b hb => .inl hb, Nat.le_refl _, hro, ⟨rfl, rfl, rfl⟩⟩
 have hfit : Fits n ρ0 { tmps := args.toArray ++ Array.replicate (fn.ntmps - args.toArray.size) undef, defers := [] } := by
  refine ⟨rfl, by simp [hn]; omega, fun t v ht => ?_⟩
  have h1 := he.get ht
  have hlt := (List.getElem?_eq_some_iff.1 h1).1
  have h2 := (List.getElem?_eq_some_iff.1 h1).2
  simp [Array.getElem?_append, hlt, h2]
 have := hW.go _ w hfit hst
 exact this
end
end Go.Sl
namespace Go.Sl
open Go
section
variable {P : Program} {n : Nat} {R : HL} {cx : Cx} {k : List Kont} {ρ : Env} {L : List HL}
def qz (m : Bool) (P : Program) (R : HL) (cx : Cx) (L : List HL) (all : Array Oper) (K : Act → Prop) (l : List Oper) (a : Act) : Prop :=
 match m with
 | true => wpQuiet P all (fun w => St cx.w0 cx.S0 R L w) K l a
 | false => ∀ w, St cx.w0 cx.S0 R L w → wpStill P all w K l a
structure WZ (m : Bool) (P : Program) (n : Nat) (R : HL) (cx : Cx) (all : Array Oper) (l : List Oper) (ρ : Env) (L : List HL) (K : Env → Prop) : Prop where
 go : ∀ a, Fits n ρ a → qz m P R cx L all (fun a' => ∃ ρ', Fits n ρ' a' ∧ K ρ') l a
variable {m : Bool} {all : Array Oper} {K : Env → Prop}
theorem WZ.nil (h : K ρ) : WZ m P n R cx all [] ρ L K := ⟨fun a hf => by cases m; exact fun w _ => ⟨ρ, hf, h⟩; exact ⟨ρ, hf, h⟩⟩
theorem WZ.val {d : Nat} {op : Op} {ty : TypeId} {pos : String} {af : Array Edge} {l : List Oper} {v : Value}
  (h : OpVal P n R cx op ty ρ L v) (hd : d < n) (hk : WZ m P n R cx all l ((d, v) :: ρ) L K) : WZ m P n R cx all (⟨some d, op, ty, pos, af, none⟩ :: l) ρ L K := by
 refine ⟨fun a hf => ?_⟩
 have hr := fun w => h.go ⟨some d, op, ty, pos, af, none⟩ a w rfl rfl hf
 have hk' := hk.go _ (hf.put hd v)
 cases m with
 | true =>
  simp only [qz, wpQuiet] at hk' ⊢
  rw [if_pos (by simp [Region.wanted])]
  exact ⟨v, fun w hw => by unfold Oper.quietAt; rw [hr w hw]; exact ⟨rfl, rfl⟩, hk'⟩
 | false =>
  simp only [qz, wpStill] at hk' ⊢
  intro w hw
  rw [if_pos (by simp [Region.wanted])]
  unfold Oper.still
  rw [hr w hw]
  exact ⟨rfl, hk' w hw⟩
theorem yielded_of {a : Act} {j s : Nat} {v : Value} (hf : Fits n ρ a) (hj : (all[j]?).bind (·.dst) = some s) (hb : ρ.get? s = some v) :
  yielded all a.tmps j = (match v with | .bool b => some b | _ => none) := by
 have := hf.at_ s _ hb
 unfold yielded
 rw [hj]
 simp only [Option.bind_some]
 simp only [Array.getD_eq_getD_getElem?] at this
 cases hh : a.tmps[s]? with
 | none => rw [hh] at this; simp [undef] at this; subst this; rfl
 | some u => rw [hh] at this; simp at this; subst this; cases u <;> rfl
theorem WZ.guardGo {d : Option Nat} {op : Op} {ty : TypeId} {pos : String} {af : Array Edge} {l : List Oper} {j s : Nat} {want b : Bool}
  (hj : (all[j]?).bind (·.dst) = some s) (hb : ρ.get? s = some (.bool b)) (hw : b = want) (hk : WZ m P n R cx all (⟨d, op, ty, pos, af, none⟩ :: l) ρ L K) :
  WZ m P n R cx all (⟨d, op, ty, pos, af, some (j, want)⟩ :: l) ρ L K := by
 refine ⟨fun a hf => ?_⟩
 have hy := yielded_of (all := all) hf hj hb
 have h := hk.go a hf
 cases m with
 | true =>
  simp only [qz, wpQuiet] at h ⊢
  rw [if_pos (by simp [Region.wanted])] at h
  rw [if_pos (by simp [Region.wanted, hy, hw])]
  exact h
 | false =>
  simp only [qz, wpStill] at h ⊢
  intro w hw'
  have h := h w hw'
  rw [if_pos (by simp [Region.wanted])] at h
  rw [if_pos (by simp [Region.wanted, hy, hw])]
  exact h
theorem WZ.skip_ {d : Nat} {op : Op} {ty : TypeId} {pos : String} {af : Array Edge} {l : List Oper} {g : Option (Nat × Bool)}
  (hg : ∀ a, Fits n ρ a → Region.wanted ⟨some d, op, ty, pos, af, g⟩ (yielded all a.tmps) = false) (hd : d < n) (hk : WZ m P n R cx all l ((d, undef) :: ρ) L K) :
  WZ m P n R cx all (⟨some d, op, ty, pos, af, g⟩ :: l) ρ L K := by
 refine ⟨fun a hf => ?_⟩
 have h := hk.go _ (hf.put hd undef)
 cases m with
 | true =>
  simp only [qz, wpQuiet] at h ⊢
  rw [if_neg (by simp [hg a hf])]
  exact h
 | false =>
  simp only [qz, wpStill] at h ⊢
  intro w hw'
  rw [if_neg (by simp [hg a hf])]
  exact h w hw'
theorem WZ.guardSkip {d : Nat} {op : Op} {ty : TypeId} {pos : String} {af : Array Edge} {l : List Oper} {j s : Nat} {want b : Bool}
  (hj : (all[j]?).bind (·.dst) = some s) (hb : ρ.get? s = some (.bool b)) (hw : b = !want) (hd : d < n) (hk : WZ m P n R cx all l ((d, undef) :: ρ) L K) :
  WZ m P n R cx all (⟨some d, op, ty, pos, af, some (j, want)⟩ :: l) ρ L K :=
 WZ.skip_ (fun a hf => by have hy := yielded_of (all := all) hf hj hb; simp only [Region.wanted, hy, hw]; cases want <;> simp) hd hk
theorem WZ.guardUndef {d : Nat} {op : Op} {ty : TypeId} {pos : String} {af : Array Edge} {l : List Oper} {j s : Nat} {want : Bool}
  (hj : (all[j]?).bind (·.dst) = some s) (hb : ρ.get? s = some undef) (hd : d < n) (hk : WZ m P n R cx all l ((d, undef) :: ρ) L K) :
  WZ m P n R cx all (⟨some d, op, ty, pos, af, some (j, want)⟩ :: l) ρ L K :=
 WZ.skip_ (fun a hf => by have hy := yielded_of (all := all) hf hj hb; simp [Region.wanted, hy, undef]) hd hk
theorem WZ.call {d : Nat} {c : Call} {ty : TypeId} {pos : String} {af : Array Edge} {l : List Oper} {fo : Operand} {xs : Array Operand} {tys : Array TypeId}
  {f : FuncId} {fst vs cap args : List Value} {ro : HL} {post : Value → List HL → Prop} (v0 : Value)
  (hc : c = ⟨.value fo, xs, tys⟩) (hfo : ev? ρ fo = some (.func (.func f) fst.toArray cap.toArray)) (hxs : evs? ρ xs.toList = some vs) (hargs : fst ++ vs ++ cap = args)
  (hsp : Ctr P f args [] ro post) (hro : RoIn R L ro) (hd : d < n) (hv : ∀ v L', post v L' → v = v0)
  (hk : WZ true P n R cx all l ((d, v0) :: ρ) L K) : WZ true P n R cx all (⟨some d, .call c, ty, pos, af, none⟩ :: l) ρ L K := by
 refine ⟨fun a hf => ?_⟩
 have h := hk.go _ (hf.put hd v0)
 have hxs' := hf.evs hxs
 have hx : xs.map a.eval = vs.toArray := by cases xs; simp at hxs'; simp [hxs']
 simp only [qz, wpQuiet] at h ⊢
 rw [if_pos (by simp [Region.wanted])]
 refine ⟨v0, fun w hs => ?_, h⟩
 unfold Oper.quietAt execOp
 subst hc
 have hcall := hsp.callable
 simp only [resolve, Deferred.ofValue, hf.ev hfo, hx, Sem.run_bind, Sem.run_pure, Result.andThen_ok, invoke]
 rw [show (fst.toArray ++ vs.toArray ++ cap.toArray) = args.toArray from by rw [← hargs]; simp, hcall]
 refine ⟨rfl, (hsp.use hs (Sel.nil (L := L)) hro).mono ?_⟩
 rintro e w' ⟨v, L', rfl, hpost, hst⟩
 refine ⟨by rw [hv v L' hpost], hst.perm (M := L) (X := L'.flatten) ?_⟩
 simp only [List.flatten_append]
 exact List.perm_append_comm
def zdrive (T : Tab) (n : Nat) : List Oper → Env → Option (List Oper × Env)
 | [], ρ => some ([], ρ)
 | o :: l, ρ => match o with
  | ⟨some d, op, _, _, _, none⟩ => match pop? T ρ op with
   | some v => if Nat.blt d n then zdrive T n l ((d, v) :: ρ) else none
   | none => some (o :: l, ρ)
  | o => some (o :: l, ρ)
theorem WZ.drive {T : Tab} (hT : TabOk P T) : ∀ {l l' : List Oper} {ρ ρ' : Env}, zdrive T n l ρ = some (l', ρ') → WZ m P n R cx all l' ρ' L K → WZ m P n R cx all l ρ L K
 | [], l', ρ, ρ', e, h => by simp only [zdrive, Option.some.injEq, Prod.mk.injEq] at e; obtain ⟨rfl, rfl⟩ := e; exact h
 | o :: l, l', ρ, ρ', e, h => by
  unfold zdrive at e
  split at e
  ·
   split at e
   ·
    rename_i v hv
    split at e
    ·
     rename_i hd
     exact WZ.val (pop_val hT hv) (by simpa using hd) (WZ.drive hT e h)
    · cases e
   · simp only [Option.some.injEq, Prod.mk.injEq] at e; obtain ⟨rfl, rfl⟩ := e; exact h
  · simp only [Option.some.injEq, Prod.mk.injEq] at e; obtain ⟨rfl, rfl⟩ := e; exact h
theorem St.drawn {w0 w : World} {S0 : List Nat} {L : List HL} (hs : St w0 S0 R L w) (i : Nat) : St w0 S0 R L { w with drawn := i } := ⟨hs.has, hs.nd, hs.fr, hs.own, hs.sz, hs.ro, hs.env⟩
theorem wpQuiet_mono {C : World → Prop} {K K' : Act → Prop} (h : ∀ a, K a → K' a) : ∀ (l : List Oper) (a : Act), wpQuiet P all C K l a → wpQuiet P all C K' l a
 | [], a, hh => h a hh
 | o :: l, a, hh => by
  simp only [wpQuiet] at hh ⊢
  split
  · rename_i hg; rw [if_pos hg] at hh; exact Oper.quiet_mono (fun a => wpQuiet_mono h l a) hh
  · rename_i hg; rw [if_neg hg] at hh; exact wpQuiet_mono h l _ hh
theorem wpStill_mono {w : World} {K K' : Act → Prop} (h : ∀ a, K a → K' a) : ∀ (l : List Oper) (a : Act), wpStill P all w K l a → wpStill P all w K' l a
 | [], a, hh => h a hh
 | o :: l, a, hh => by
  simp only [wpStill] at hh ⊢
  split
  · rename_i hg; rw [if_pos hg] at hh; exact Oper.still_mono (fun a => wpStill_mono h l a) hh
  · rename_i hg; rw [if_neg hg] at hh; exact wpStill_mono h l _ hh
theorem W.draw {id : Nat} {ops : Array Oper} (hm : P.follows .mixedOrders = true) (hB : Region.lexB .any ops = true)
  (h : WZ true P n R cx ops ops.toList ρ L (fun ρ' => W P n R cx k ρ' L)) : W P n R cx (.code (.region id ops true) :: k) ρ L := by
 refine ⟨fun a w hf hs => ?_⟩
 have h1 := h.go a hf
 simp only [qz] at h1
 simp only [mean]
 refine wp_region_quiet (C := fun w => St cx.w0 cx.S0 R L w) hm hB (hs.drawn _) ?_
 refine wpQuiet_mono ?_ _ _ h1
 rintro a' ⟨ρ', hf', hW⟩ w' hs'
 exact hW.go a' w' hf' hs'
theorem W.drawTail (N : Nat) {id : Nat} {l : List Oper} (hm : P.follows .mixedOrders = true) (hB : Region.lexTailB .any l.toArray N = true)
  (h : WZ false P n R cx l.toArray (l.take N) ρ L (fun ρ' => W P n R cx (.ops l.toArray (l.drop N) :: k) ρ' L)) : W P n R cx (.code (.region id l.toArray true) :: k) ρ L := by
 refine ⟨fun a w hf hs => ?_⟩
 have h1 := h.go a hf
 simp only [qz] at h1
 simp only [mean]
 refine wp_region_still_tail N hm hB ?_
 refine wpStill_mono ?_ _ _ (h1 _ (hs.drawn _))
 rintro a' ⟨ρ', hf', hW⟩
 exact hW.go a' _ hf' (hs.drawn _)
end
end Go.Sl
namespace Go.Sl
open Go
section
variable {P : Program} {n : Nat} {R : HL} {cx : Cx} {k : List Kont} {ρ : Env} {L : List HL}
structure Prim (P : Program) (n : Nat) (R : HL) (cx : Cx) (op : Op) (ty : TypeId) (ρ : Env) (L : List HL) (pre : List HL) (post : Value → List HL → Prop) : Prop where
 go : ∀ (oo : Oper) a w, oo.op = op → oo.type = ty → Fits n ρ a → St cx.w0 cx.S0 R L w → ∃ v L' w', (execOp a.eval oo).run P w = .ok (.value v) w' ∧ post v L' ∧ St w (ids pre.flatten) [] L' w'
theorem W.prim {all : Array Oper} {d : Nat} {op : Op} {ty : TypeId} {pos : String} {af : Array Edge} {l : List Oper} {pre rest : List HL} {post : Value → List HL → Prop}
  (h : Prim P n R cx op ty ρ L pre post) (hsel : Sel L pre rest) (hd : d < n) (hk : ∀ v L', post v L' → W P n R cx (.ops all l :: k) ((d, v) :: ρ) (L' ++ rest)) :
  W P n R cx (.ops all (⟨some d, op, ty, pos, af, none⟩ :: l) :: k) ρ L := by
 refine ⟨fun a w hf hs => ?_⟩
 obtain ⟨v, L', w', hr, hp, hst⟩ := h.go ⟨some d, op, ty, pos, af, none⟩ a w rfl rfl hf hs
 simp only [mean, wpList, Region.wanted, if_true]
 refine .inl ?_
 unfold Oper.wp
 rw [hr]
 exact (hk v L' hp).go _ _ (hf.put hd v) (hs.call hsel hst)
theorem W.primU {all : Array Oper} {op : Op} {ty : TypeId} {pos : String} {af : Array Edge} {l : List Oper} {pre rest : List HL} {post : Value → List HL → Prop}
  (h : Prim P n R cx op ty ρ L pre post) (hsel : Sel L pre rest) (hk : ∀ v L', post v L' → W P n R cx (.ops all l :: k) ρ (L' ++ rest)) :
  W P n R cx (.ops all (⟨none, op, ty, pos, af, none⟩ :: l) :: k) ρ L := by
 refine ⟨fun a w hf hs => ?_⟩
 obtain ⟨v, L', w', hr, hp, hst⟩ := h.go ⟨none, op, ty, pos, af, none⟩ a w rfl rfl hf hs
 simp only [mean, wpList, Region.wanted, if_true]
 refine .inl ?_
 unfold Oper.wp
 rw [hr]
 exact (hk v L' hp).go _ _ (by simpa [Act.put] using hf) (hs.call hsel hst)
theorem St.fresh (w : World) (i : Nat) (S : List Nat) (o : Obj) : St w S [] [[(w.heap.size, o)]] ({ w with drawn := i }.alloc o) := by
 refine ⟨?_, by simp [ids], ?_, ?_, by simp, fun _ h => (by cases h), ⟨rfl, rfl, rfl⟩⟩
 ·
  intro p hp
  simp at hp
  subst hp
  exact heap_alloc_new { w with drawn := i } o
 ·
  intro b hb _
  exact heap_alloc_old { w with drawn := i } o hb
 ·
  intro b hb
  simp [ids] at hb
  subst hb
  exact .inr (Nat.le_refl _)
theorem St.row (w : World) (i b : Nat) (l : List Value) (cs : Array Value) (e : TypeId) (fr : Nat × Nat) (hg : w.heap[b]? = some (.cells cs e fr)) :
  St w [b] [] [[(b, .cells l.toArray e fr)]] ({ w with drawn := i }.setRow b l.toArray) := by
 refine ⟨?_, by simp [ids], ?_, ?_, by simp [World.setRow], fun _ h => (by cases h), ⟨rfl, rfl, rfl⟩⟩
 ·
  intro p hp
  simp at hp
  subst hp
  exact setRow_heap { w with drawn := i } b _ _ e fr hg
 ·
  intro j _ hj
  exact setRow_other { w with drawn := i } b j _ (by simpa using hj)
 ·
  intro j hj
  simp [ids] at hj
  simp [hj]
def Own (m e : Nat) (cs : List Value) (a : Option Addr) (len cap : Nat) (H : HL) : Prop :=
 cs.length = len * m ∧ ((a = none ∧ len = 0 ∧ cap = 0 ∧ H = []) ∨ ∃ b l, a = some ⟨b, 0, none⟩ ∧ H = [(b, .cells (List.toArray l) e (0, 0))] ∧ len ≤ cap ∧ l.length = cap * m ∧ l.take (len * m) = cs)
theorem Own.nil (m e : Nat) : Own m e [] none 0 0 [] := ⟨by simp, .inl ⟨rfl, rfl, rfl, rfl⟩⟩
theorem Own.some {m e : Nat} {cs : List Value} {a : Option Addr} {len cap : Nat} {H : HL} (h : Own m e cs a len cap H) (h0 : 0 < len) :
  ∃ b l, a = some ⟨b, 0, none⟩ ∧ H = [(b, .cells (List.toArray l) e (0, 0))] ∧ len ≤ cap ∧ l.length = cap * m ∧ l.take (len * m) = cs := by
 rcases h.2 with ⟨_, h1, _⟩ | h1
 · omega
 · exact h1
theorem Own.exact {m e : Nat} {cs : List Value} {len : Nat} (b : Nat) (h : cs.length = len * m) : Own m e cs (.some ⟨b, 0, none⟩) len len [(b, .cells cs.toArray e (0, 0))] :=
 ⟨h, .inr ⟨b, cs, rfl, rfl, Nat.le_refl _, h, by rw [← h]; simp⟩⟩
theorem zeroCells_len (z : Array Value) (j : Nat) : (Builtin.zeroCells z j).toList.length = j * z.size := by simp [Builtin.zeroCells]
theorem append_some {e m bytes : Nat} (hi : InfOk P e m bytes) {t ty : TypeId} {s x : Operand} {cs news : List Value} {a : Option Addr} {len cap nx cxx bx ox : Nat} {H : HL}
  {lx : List Value} {ex : TypeId} {frx : Nat × Nat} (ht : P.underlying t = some (.slice e)) (hs : ev? ρ s = some (.slice a len cap)) (ho : Own m e cs a len cap H)
  (hH : ∀ p ∈ H, p ∈ L.flatten) (hx : ev? ρ x = some (.slice (some ⟨bx, ox, none⟩) nx cxx)) (hb : At R L bx (.cells lx.toArray ex frx)) (hn : seg? lx ox (nx * m) = some news)
  (h1 : allOne news = true) (hbig : (len + nx) * bytes ≤ 140737488355328) (hbig2 : len + nx ≤ 140737488355328) :
  Prim P n R cx (.call ⟨.builtin .append, #[s, x], #[t, t]⟩) ty ρ L [H] (fun v L' => ∃ a' cap' H', v = .slice a' (len + nx) cap' ∧ L' = [H'] ∧ Own m e (cs ++ news) a' (len + nx) cap' H') := by
 obtain ⟨i, z, hi1, hi2, rfl, rfl, hi5, hi6⟩ := hi
 obtain ⟨hn1, hn2⟩ := seg?_eq lx ox (nx * i.size) hn
 have hnl : news.length = nx * i.size := by rw [hn2]; simp; omega
 refine ⟨fun oo ac w hoo hty hf hst => ?_⟩
 have hcell : ∀ j v, news[j]? = some v → w.cell? ((⟨bx, ox, none⟩ : Addr).add j) = some v := by
  intro j v hj
  rw [Addr.add_none', cell_of_row w bx (ox + j) _ ex frx (hb.heap hst)]
  have hjm : j < nx * i.size := by rw [← hnl]; exact (List.getElem?_eq_some_iff.1 hj).1
  rw [hn2, List.getElem?_take, if_pos hjm, List.getElem?_drop] at hj
  simpa using hj
 have hrun : ∀ r w', (Builtin.append_ #[t, t] oo.type #[.slice a len cap, .slice (some ⟨bx, ox, none⟩) nx cxx]).run P w = .ok r w' → (execOp ac.eval oo).run P w = .ok (.value r) w' := by
  intro r w' hr
  unfold execOp
  rw [hoo]
  simp [resolve, invoke, builtin, hf.ev hs, hf.ev hx, hr]
 have grownL : ∀ old : Nat, Own i.size e (cs ++ news) (some ⟨w.heap.size, 0, none⟩) (len + nx) (grownCap w (len + nx) old e)
   [(w.heap.size, .cells (cs ++ news ++ (Builtin.zeroCells z.cells (grownCap w (len + nx) old e - (len + nx))).toList).toArray e (0, 0))] := by
  intro old
  have hge := grownCap_ge w (len + nx) old e
  have hlen : (cs ++ news).length = (len + nx) * i.size := by rw [List.length_append, ho.1, hnl, Nat.add_mul]
  refine ⟨hlen, .inr ⟨_, _, rfl, rfl, hge, ?_, ?_⟩⟩
  ·
   rw [List.length_append, hlen, zeroCells_len, hi5, ← Nat.add_mul]
   congr 1
   omega
  · rw [← hlen]; exact List.take_left
 rcases ho.2 with ⟨rfl, rfl, rfl, rfl⟩ | ⟨b, l, rfl, rfl, hlc, hll, htake⟩
 ·
  have hc0 : cs = [] := List.eq_nil_of_length_eq_zero (by simpa using ho.1)
  subst hc0
  by_cases h0 : nx = 0
  ·
   subst h0
   have hn0 : news = [] := List.eq_nil_of_length_eq_zero (by simpa using hnl)
   subst hn0
   refine ⟨.slice none 0 0, [[]], w, hrun _ _ ?_, ⟨none, 0, [], rfl, rfl, Own.nil _ _⟩, ?_⟩
   · simp [Builtin.append_, run_underlying ht, sizeOf, typeInfo, hi1, Builtin.lenOf, Builtin.firstCells, loadCells, loadCellsFrom]
   · exact ⟨fun _ h => by simp at h, by simp [ids], fun _ _ _ => rfl, fun _ h => by simp [ids] at h, Nat.le_refl _, fun _ h => (by cases h), ⟨rfl, rfl, rfl⟩⟩
  ·
   have hr := run_append_nil (P := P) w t oo.type e i z ht hi1 hi2 ⟨bx, ox, none⟩ nx cxx news hnl hcell (by omega) (by omega) (by rw [Nat.zero_add] at hbig; omega)
   refine ⟨.slice (some ⟨w.heap.size, 0, none⟩) (0 + nx) (grownCap w (0 + nx) 0 e), [[(w.heap.size, .cells ([] ++ news ++ (Builtin.zeroCells z.cells (grownCap w (0 + nx) 0 e - (0 + nx))).toList).toArray e (0, 0))]],
    w.drew.alloc (.cells ([] ++ news ++ (Builtin.zeroCells z.cells (grownCap w (0 + nx) 0 e - (0 + nx))).toList).toArray e (0, 0)), hrun _ _ ?_, ⟨_, _, _, rfl, rfl, grownL 0⟩, St.fresh w _ _ _⟩
   rw [hr]
   simp only [Nat.zero_add, List.nil_append, Result.ok.injEq, true_and]
   congr 2
   apply Array.ext'
   simp
 ·
  have hgb : w.heap[b]? = some (.cells l.toArray e (0, 0)) := hst.has (b, .cells l.toArray e (0, 0)) (hH _ (by simp))
  by_cases hroom : len + nx ≤ cap
  ·
   have hfit : len * i.size + news.length ≤ l.toArray.size := by rw [hnl, List.size_toArray, hll, ← Nat.add_mul]; exact Nat.mul_le_mul_right _ hroom
   have hr := run_append_room (P := P) w t oo.type e i ht hi1 b len cap l.toArray hgb ⟨bx, ox, none⟩ nx cxx news hnl hcell (allOne_mem h1) hroom hfit
   refine ⟨.slice (some ⟨b, 0, none⟩) (len + nx) cap, [[(b, .cells (l.take (len * i.size) ++ news ++ l.drop (len * i.size + news.length)).toArray e (0, 0))]], _, hrun _ _ hr, ⟨_, _, _, rfl, rfl, ?_⟩, ?_⟩
   ·
    have hlen : (cs ++ news).length = (len + nx) * i.size := by rw [List.length_append, ho.1, hnl, Nat.add_mul]
    refine ⟨hlen, .inr ⟨b, _, rfl, rfl, hroom, ?_, ?_⟩⟩
    ·
     simp at hfit ⊢
     omega
    ·
     rw [htake, ← hlen]
     exact List.take_left
   ·
    have := St.row w w.drawn b (l.take (len * i.size) ++ news ++ l.drop (len * i.size + news.length)) l.toArray e (0, 0) hgb
    simpa [ids] using this
  ·
   have holds : ∀ j v, cs[j]? = some v → w.cell? ((⟨b, 0, none⟩ : Addr).add j) = some v := by
    intro j v hj
    rw [Addr.add_none', cell_of_row w b (0 + j) _ e (0, 0) hgb]
    rw [← htake, List.getElem?_take] at hj
    split at hj
    · simpa using hj
    · cases hj
   have hr := run_append_grow (P := P) w t oo.type e i z ht hi1 hi2 ⟨b, 0, none⟩ len cap cs ho.1 holds ⟨bx, ox, none⟩ nx cxx news hnl hcell (by omega) (by omega) (growslice_fits (by omega) hbig)
   refine ⟨.slice (some ⟨w.heap.size, 0, none⟩) (len + nx) (grownCap w (len + nx) cap e), [[(w.heap.size, .cells (cs ++ news ++ (Builtin.zeroCells z.cells (grownCap w (len + nx) cap e - (len + nx))).toList).toArray e (0, 0))]],
    w.drew.alloc (.cells (cs ++ news ++ (Builtin.zeroCells z.cells (grownCap w (len + nx) cap e - (len + nx))).toList).toArray e (0, 0)), hrun _ _ ?_, ⟨_, _, _, rfl, rfl, grownL cap⟩, St.fresh w _ _ _⟩
   rw [hr]
   simp only [Result.ok.injEq, true_and]
   congr 2
   apply Array.ext'
   simp
theorem append_nil {e m bytes : Nat} (hi : InfOk P e m bytes) {t ty : TypeId} {s x : Operand} {cs : List Value} {a : Option Addr} {len cap : Nat} {H : HL}
  (ht : P.underlying t = some (.slice e)) (hs : ev? ρ s = some (.slice a len cap)) (ho : Own m e cs a len cap H)
  (hH : ∀ p ∈ H, p ∈ L.flatten) (hx : ev? ρ x = some (.slice none 0 0)) :
  Prim P n R cx (.call ⟨.builtin .append, #[s, x], #[t, t]⟩) ty ρ L [H] (fun v L' => v = .slice a len cap ∧ L' = [H]) := by
 obtain ⟨i, z, hi1, hi2, rfl, rfl, hi5, hi6⟩ := hi
 refine ⟨fun oo ac w hoo hty hf hst => ?_⟩
 refine ⟨_, _, w, ?_, ⟨rfl, rfl⟩, ?_⟩
 ·
  unfold execOp
  rw [hoo]
  have hlc : len ≤ cap := by
   rcases ho.2 with ⟨_, h1, h2, _⟩ | ⟨_, _, _, _, h1, _⟩ <;> omega
  rcases ho.2 with ⟨rfl, rfl, rfl, rfl⟩ | ⟨b, l, rfl, rfl, _, hll, htake⟩
  · simp [resolve, invoke, builtin, hf.ev hs, hf.ev hx, Builtin.append_, run_underlying ht, sizeOf, typeInfo, hi1, Builtin.lenOf, Builtin.firstCells]
  · simp [resolve, invoke, builtin, hf.ev hs, hf.ev hx, Builtin.append_, run_underlying ht, sizeOf, typeInfo, hi1, Builtin.lenOf, Builtin.firstCells, hlc, storeCells]
 ·
  have hmem : ∀ p ∈ [H].flatten, p ∈ L.flatten := by simpa using hH
  refine ⟨fun p hp => hst.has p (hmem p hp), ?_, fun _ _ _ => rfl, fun b hb => .inl hb, Nat.le_refl _, fun _ h => (by cases h), ⟨rfl, rfl, rfl⟩⟩
  rcases ho.2 with ⟨_, _, _, rfl⟩ | ⟨b, l, _, rfl, _⟩ <;> simp [ids]
theorem madeCells_rep (z : Array Value) (j m : Nat) (hz : z.size = m) (v : Value) (h1 : z = #[v]) : (madeCells z j).toList = List.replicate j v := by
 subst h1
 apply List.ext_getElem
 · simp [madeCells]
 ·
  intro i h1 h2
  simp [madeCells, Nat.mod_one]
theorem NewOf.make {e bytes : Nat} {t ty : TypeId} {x y : Operand} {z : Value} {kl kc : IntKind} {len cap : Nat} {il ic : Int}
  (hi : InfOk P e 1 bytes) (hz : ZeroOf P e z) (hz1 : z.oneCell' = true) (ht : P.underlying t = some (.slice e))
  (hx : ev? ρ x = some (.int kl il)) (hy : ev? ρ y = some (.int kc ic)) (hl : il = (len : Int)) (hc : ic = (cap : Int)) (hlc : len ≤ cap) (hb : bytes * cap ≤ 281474976710656) (hb2 : cap ≤ 281474976710656) :
  NewOf P n R cx (.makeSlice t x y) ty ρ L (.cells (List.replicate cap z).toArray e (0, 0)) (fun b => .slice (some ⟨b, 0, none⟩) len cap) := by
 obtain ⟨i, z', hi1, hi2, hi3, rfl, hi5, hi6⟩ := hi
 have hzz : z' = z := by
  have := hz default
  simp [zeroValue, typeInfo, hi1, hi2] at this
  exact this
 subst hzz
 have hzc : z'.cells = #[z'] := by cases z' <;> simp_all [Value.oneCell', Value.cells]
 refine ⟨fun oo a w ho hty hf hs => ⟨w.drawn, ?_⟩⟩
 subst hl hc
 have hr := run_make (P := P) w t e i z' ht hi1 hi2 kl kc len cap (by omega) (by omega) (by have : ((i.bytes * cap : Nat) : Int) ≤ 281474976710656 := by omega
                                                                                            rwa [Int.natCast_mul] at this) (by omega)
 unfold execOp; rw [ho]
 show _ = Result.ok _ (w.alloc _)
 simp only [hf.ev hx, hf.ev hy, Sem.run_bind, hr, Result.andThen_ok, Sem.run_pure, Int.toNat_natCast, hi3, Nat.mul_one]
 have := madeCells_rep z'.cells cap 1 (by rw [hzc]; rfl) z' hzc
 rw [← this]
theorem W.make {all : Array Oper} {d : Nat} {e bytes : Nat} {t ty : TypeId} {x y : Operand} {pos : String} {af : Array Edge} {l : List Oper} {z : Value} {kl kc : IntKind} {len cap : Nat} {il ic : Int}
  (hi : InfOk P e 1 bytes) (hz : ZeroOf P e z) (hz1 : z.oneCell' = true) (ht : P.underlying t = some (.slice e))
  (hx : ev? ρ x = some (.int kl il)) (hy : ev? ρ y = some (.int kc ic)) (hl : il = (len : Int)) (hc : ic = (cap : Int)) (hlc : len ≤ cap) (hb : bytes * cap ≤ 281474976710656) (hb2 : cap ≤ 281474976710656) (hd : d < n)
  (hk : ∀ b, W P n R cx (.ops all l :: k) ((d, .slice (some ⟨b, 0, none⟩) len cap) :: ρ) ([(b, .cells (List.replicate cap z).toArray e (0, 0))] :: L)) :
  W P n R cx (.ops all (⟨some d, .makeSlice t x y, ty, pos, af, none⟩ :: l) :: k) ρ L :=
 W.newOf (NewOf.make hi hz hz1 ht hx hy hl hc hlc hb hb2).go hd hk
theorem OpVal.piece {T : Tab} (hT : TabOk P T) {t e ty : TypeId} {x : Operand} {lo hi mx : Option Operand} {b off len cap m l h c : Nat} {ag : Bool}
  (hx : ev? ρ x = some (.slice (some ⟨b, off, none⟩) len cap)) (ht : look? T.sls t = some e) (hz : look? T.tys e = some (ag, m))
  (hl : match lo with | none => l = 0 | some o => ∃ kk, ev? ρ o = some (.int kk (l : Int)))
  (hh : match hi with | none => h = len ∧ mx = none | some o => ∃ kk, ev? ρ o = some (.int kk (h : Int)))
  (hm : match mx with | none => c = cap | some o => ∃ kk, ev? ρ o = some (.int kk (c : Int)))
  (h1 : l ≤ h) (h2 : h ≤ c) (h3 : c ≤ cap) (hne : l < c ∨ l = 0) :
  OpVal P n R cx (.slice t x lo hi mx) ty ρ L (.slice (some ⟨b, off + l * m, none⟩) (h - l) (c - l)) := by
 refine ⟨fun oo a w ho hty hf hs => ?_⟩
 have hu := hT.sls _ (look?_mem ht)
 have hz' := (hT.tys _ (look?_mem hz)).2
 have bnd : ∀ (o : Operand) (v y : Nat) (cd : BoundsCode), (∃ kk, ev? ρ o = some (.int kk (v : Int))) → v ≤ y → (Instr.sliceBound (a.eval o) y cd).run P w = .ok v w := by
  rintro o v y cd ⟨kk, ho⟩ hv
  simp [Instr.sliceBound, hf.ev ho, asIntOf, hv]
 unfold execOp; rw [ho]
 have hne' : ∀ q : Addr, q = ⟨b, off, none⟩ → (if c = l then some q else some (q.add (l * m))) = some ⟨b, off + l * m, none⟩ := by
  rintro q rfl
  rcases hne with h | h
  · rw [if_neg (by omega), Addr.add_none']
  ·
   subst h
   split <;> simp [Addr.add_none']
 have hne2 := hne' _ rfl
 cases mx with
 | none =>
  simp only at hm
  subst hm
  cases hi with
  | none =>
   simp only at hh
   obtain ⟨rfl, -⟩ := hh
   cases lo with
   | none =>
    simp only at hl
    subst hl
    simp [Instr.sliceAt, Instr.slice, Instr.sliceBounds, underlying, hu, hf.ev hx, hz' w, Addr.add_none']
   | some o =>
    simp only at hl
    simp [Instr.sliceAt, Instr.slice, Instr.sliceBounds, underlying, hu, hf.ev hx, hz' w, bnd o l _ _ hl h1, hne2]
  | some o2 =>
   simp only at hh
   cases lo with
   | none =>
    simp only at hl
    subst hl
    simp [Instr.sliceAt, Instr.slice, Instr.sliceBounds, underlying, hu, hf.ev hx, hz' w, bnd o2 h _ _ hh h2, Addr.add_none']
   | some o =>
    simp only at hl
    simp [Instr.sliceAt, Instr.slice, Instr.sliceBounds, underlying, hu, hf.ev hx, hz' w, bnd o2 h _ _ hh h2, bnd o l _ _ hl h1, hne2]
 | some o3 =>
  simp only at hm
  cases hi with
  | none => simp at hh
  | some o2 =>
   simp only at hh
   cases lo with
   | none =>
    simp only at hl
    subst hl
    simp [Instr.sliceAt, Instr.slice, Instr.sliceBounds, underlying, hu, hf.ev hx, hz' w, bnd o3 c _ _ hm h3, bnd o2 h _ _ hh h2, Addr.add_none']
   | some o =>
    simp only at hl
    simp [Instr.sliceAt, Instr.slice, Instr.sliceBounds, underlying, hu, hf.ev hx, hz' w, bnd o3 c _ _ hm h3, bnd o2 h _ _ hh h2, bnd o l _ _ hl h1, hne2]
theorem OpVal.front {T : Tab} (hT : TabOk P T) {t e ty : TypeId} {x y : Operand} {a : Option Addr} {len cap m h : Nat} {ag : Bool} {kk : IntKind} {i : Int}
  (hx : ev? ρ x = some (.slice a len cap)) (ht : look? T.sls t = some e) (hz : look? T.tys e = some (ag, m)) (hy : ev? ρ y = some (.int kk i)) (hi : i = (h : Int)) (h2 : h ≤ cap) :
  OpVal P n R cx (.slice t x none (some y) none) ty ρ L (.slice a h cap) := by
 refine ⟨fun oo ac w ho hty hf hs => ?_⟩
 have hu := hT.sls _ (look?_mem ht)
 have hz' := (hT.tys _ (look?_mem hz)).2
 subst hi
 unfold execOp; rw [ho]
 have h3 : ∀ a : Option Addr, (if cap = 0 then a else a.map (·.add 0)) = a := by
  intro a; split
  · rfl
  · cases a <;> simp [Addr.add]
 cases a <;> simp [Instr.sliceAt, Instr.slice, Instr.sliceBounds, Instr.sliceBound, asIntOf, underlying, hu, hf.ev hx, hf.ev hy, hz' w, h2, Addr.add]
theorem OpVal.min2 {t1 t2 ty : TypeId} {x y : Operand} {kk k2 : IntKind} {i j : Int} (hx : ev? ρ x = some (.int kk i)) (hy : ev? ρ y = some (.int k2 j)) :
  OpVal P n R cx (.call ⟨.builtin .min, #[x, y], #[t1, t2]⟩) ty ρ L (.int kk (if j < i then j else i)) := by
 refine ⟨fun oo a w ho hty hf hs => ?_⟩
 unfold execOp; rw [ho]
 simp [resolve, invoke, builtin, hf.ev hx, hf.ev hy, Builtin.min_, Builtin.min2]
theorem foldl_set (l : List Value) (off : Nat) (l' : List Value) : ∀ (vs : List Value) (j : Nat), splice? l (off + j) vs = some l' →
  ((vs.zipIdx j).foldl (fun cs (x : Value × Nat) => cs.setIfInBounds (off + x.2) x.1) l.toArray) = l'.toArray
 | [], j, h => by
  obtain ⟨_, h2⟩ := splice?_eq l (off + j) [] h
  simp at h2
  simp [h2]
 | v :: vs, j, h => by
  obtain ⟨h1, h2⟩ := splice?_eq l (off + j) (v :: vs) h
  simp only [List.zipIdx_cons, List.foldl_cons]
  have h3 : splice? (l.set (off + j) v) (off + (j + 1)) vs = some l' := by
   have h4 : off + (j + 1) + vs.length ≤ (l.set (off + j) v).length := by simp at h1 ⊢; omega
   have : ∀ (l : List Value) (o : Nat) (vs : List Value), o + vs.length ≤ l.length → splice? l o vs = some (l.take o ++ vs ++ l.drop (o + vs.length)) := by
    intro l
    induction l with
    | nil => intro o vs h; simp at h; obtain ⟨rfl, rfl⟩ := h; rfl
    | cons x l ih =>
     intro o vs h
     cases o with
     | zero =>
      cases vs with
      | nil => simp [splice?]
      | cons u us =>
       have := ih 0 us (by simpa using h)
       simp only [splice?, this]
       simp
     | succ o =>
      have := ih o vs (by simp at h; omega)
      simp only [splice?, this]
      simp [show o + 1 + vs.length = (o + vs.length) + 1 from by omega]
   rw [this _ _ _ h4, h2]
   congr 1
   simp only [List.length_cons]
   have e1 : (l.set (off + j) v).take (off + (j + 1)) = l.take (off + j) ++ [v] := by
    rw [show off + (j + 1) = (off + j) + 1 from by omega, List.take_add_one]
    have hlt : off + j < l.length := by simp at h1; omega
    rw [List.take_set, List.set_eq_of_length_le (by simp; omega)]
    simp [hlt]
   have e2 : (l.set (off + j) v).drop (off + (j + 1) + vs.length) = l.drop (off + j + (vs.length + 1)) := by
    rw [List.drop_set_of_lt (by omega)]
    congr 1
    omega
   rw [e1, e2]
   simp
  have := foldl_set (l.set (off + j) v) off l' vs (j + 1) h3
  simpa using this
def lay? : List Value → List (Nat × List Value) → Option (List Value)
 | l, [] => some l
 | l, (o, vs) :: r => match splice? l o vs with
  | some l' => lay? l' r
  | none => none
def parts? (ρ : Env) : List (Nat × Nat) → List (Nat × Operand) → Option (List (Nat × List Value))
 | _, [] => some []
 | pl, (i, x) :: r => match ev? ρ x with
  | none => none
  | some v => match cells? v with
   | none => none
   | some vs => match pl[i]? with
    | none => none
    | some (o, _) => match parts? ρ pl r with
     | none => none
     | some q => some ((o, vs) :: q)
def Fills (pl : List (Nat × Nat)) (ρ : Env) (ps : List (Nat × Operand)) : Prop := match ps with
 | [] => True
 | (i, x) :: r => (∃ v vs o, ev? ρ x = some v ∧ cells? v = some vs ∧ pl[i]? = some (o, vs.length)) ∧ Fills pl ρ r
theorem fill_lay {place : Nat → Option (Nat × Nat)} {pl : List (Nat × Nat)} (hp : ∀ i o m, pl[i]? = some (o, m) → place i = some (o, m)) {a : Act} (hf : Fits n ρ a) :
  ∀ (ps : List (Nat × Operand)) (zs out : List Value) {q : List (Nat × List Value)}, parts? ρ pl ps = some q → Fills pl ρ ps → lay? zs q = some out →
   Instr.fill place zs.toArray (ps.map fun (i, x) => (i, a.eval x)) = some out.toArray
 | [], zs, out, q, h1, _, h3 => by
  simp only [parts?, Option.some.injEq] at h1
  subst h1
  simp only [lay?, Option.some.injEq] at h3
  subst h3
  rfl
 | (i, x) :: r, zs, out, q, h1, h2, h3 => by
  obtain ⟨⟨v, vs, o, e1, e2, e3⟩, h2'⟩ := h2
  simp only [parts?, e1, e2, e3] at h1
  split at h1
  · cases h1
  ·
   rename_i q' hq
   cases h1
   simp only [lay?] at h3
   split at h3
   ·
    rename_i zs' hz
    have ih := fill_lay hp hf r zs' out hq h2' h3
    have hc := cells?_eq e2
    obtain ⟨hb, -⟩ := splice?_eq _ _ _ hz
    have hfs := foldl_set zs o zs' vs 0 (by simpa using hz)
    simp only [List.map_cons, Instr.fill, hp i o _ e3, hf.ev e1, hc]
    rw [if_neg (by simp; omega)]
    have : (Array.foldl (fun cs (x : Value × Nat) => cs.setIfInBounds (o + x.2) x.1) zs.toArray vs.toArray.zipIdx) = zs'.toArray := by
     rw [← hfs]
     simp
    rw [← ih]
    simp only at this ⊢
    rw [← this]
   · cases h3
theorem OpVal.build {T : Tab} (hT : TabOk P T) {t ty : TypeId} {ps : List (Nat × Operand)} {z : Value} {zs out : List Value} {pl : List (Nat × Nat)} {q : List (Nat × List Value)}
  (hz : look? T.zeros t = some z) (hzc : cells? z = some zs) (hp : look? T.flds t = some pl) (hq : parts? ρ pl ps = some q) (hf : Fills pl ρ ps) (ho : lay? zs q = some out) :
  OpVal P n R cx (.build t ps.toArray) ty ρ L (.agg out.toArray) := by
 refine ⟨fun oo a w hoo hty hfi hs => ?_⟩
 have hz' := hT.zeros _ (look?_mem hz) w
 have hp' := hT.flds _ (look?_mem hp)
 unfold execOp; rw [hoo]
 have hcz := cells?_eq hzc
 rcases hp' with ⟨fs, hu, hm⟩ | ⟨len, el, m, hu, hm, hpl⟩
 ·
  have hfill := fill_lay (place := (pl.toArray[·]?)) (fun i o m h => by simpa using h) hfi ps zs out hq hf ho
  have hm' := hm w
  simp only at hz' hu hm'
  simp only [Instr.build, Sem.run_bind, hz', underlying, run_program, Result.andThen_ok, hu, Sem.run_pure, hm', hcz]
  simp only [List.map_toArray, hfill]
  simp
 ·
  have hfill := fill_lay (place := fun i => some (i * m, m)) (fun i o k h => by
   simp only at hpl
   rw [hpl] at h
   simp only [List.getElem?_map, Option.map_eq_some_iff, Prod.mk.injEq] at h
   obtain ⟨j, hj, rfl, rfl⟩ := h
   have := (List.getElem?_eq_some_iff.1 hj).2
   simp at this
   rw [this]) hfi ps zs out hq hf ho
  have hm' := hm w
  simp only at hz' hu
  simp only [Instr.build, Sem.run_bind, hz', underlying, run_program, Result.andThen_ok, hu, Sem.run_pure, hm', hcz]
  simp only [List.map_toArray, hfill]
  simp
def repL : Nat → List Value → List Value
 | 0, _ => []
 | j + 1, l => l ++ repL j l
theorem repL_eq (zc : List Value) (m : Nat) (hm : zc.length = m) (h0 : 0 < m) : ∀ len : Nat, ((List.range (len * m)).map fun i => zc.toArray[i % m]!) = repL len zc
 | 0 => by simp [repL]
 | j + 1 => by
  have ih := repL_eq zc m hm h0 j
  rw [show (j + 1) * m = m + j * m from by rw [Nat.add_mul]; omega, List.range_add, List.map_append, repL]
  congr 1
  ·
   apply List.ext_getElem
   · simp [hm]
   ·
    intro i h1 h2
    simp at h1
    simp [Nat.mod_eq_of_lt h1, h2]
  ·
   rw [← ih, List.map_map]
   apply List.map_congr_left
   intro i _
   simp
theorem NewOf.newSl {T : Tab} (hT : TabOk P T) {t e ty m bytes len : Nat} {ps : List (Nat × Operand)} {z : Value} {zs zz out : List Value}
  {pl : List (Nat × Nat)} {q : List (Nat × List Value)}
  (ht : look? T.sls t = some e) (hi : look? T.infs e = some (m, bytes)) (hz : look? T.zeros e = some z) (hzc : cells? z = some zs) (hzl : zs.length = m) (hrep : norm? (repL len zs) = some zz)
  (hpl : ∀ i o k, pl[i]? = some (o, k) → o = i * m ∧ k = m) (hq : parts? ρ pl ps = some q) (hf : Fills pl ρ ps) (ho : lay? zz q = some out) (hlen : len * m ≤ 16777216) :
  NewOf P n R cx (.buildSlice t len ps.toArray) ty ρ L (.cells out.toArray e (0, 0)) (fun b => .slice (some ⟨b, 0, none⟩) len len) := by
 refine ⟨fun oo a w hoo hty hfi hs => ⟨w.drawn, ?_⟩⟩
 have hu := hT.sls _ (look?_mem ht)
 obtain ⟨i, z', hi1, hi2, hi3, hi4, hi5, hi6⟩ := hT.infs _ (look?_mem hi)
 have hz' := hT.zeros _ (look?_mem hz) w
 have hcz := cells?_eq hzc
 have hrep' := norm?_eq hrep
 simp only at hu hi1 hi3 hi4 hi5 hi6 hz'
 have hfill := fill_lay (place := fun i => some (i * m, m)) (fun i o k h => by obtain ⟨rfl, rfl⟩ := hpl i o k h; rfl) hfi ps zz out hq hf ho
 unfold execOp; rw [hoo]
 show _ = Result.ok _ (w.alloc _)
 have hsz : (sizeOf e).run P w = .ok m w := by simp [sizeOf, typeInfo, hi1, hi3]
 have hcells : ((Array.range (len * m)).map fun i => zs.toArray[i % zs.toArray.size]!) = zz.toArray := by
  apply Array.ext'
  have := repL_eq zs m hzl hi6 len
  simp only [List.size_toArray, hzl, Array.toList_map, Array.toList_range]
  rw [this, hrep']
 have hno : ¬ (2 ^ 24 < len * m) := by omega
 simp only [Instr.buildSlice, Sem.run_bind, underlying, run_program, Result.andThen_ok, hu, Sem.run_pure, hsz, gt_iff_lt, hno, if_false, List.map_toArray]
 by_cases h0 : len * m = 0
 ·
  have hzz : zz = [] := by
   rw [← hrep']
   have : len = 0 := by
    rcases Nat.mul_eq_zero.1 h0 with h | h
    · exact h
    · omega
   subst this
   rfl
  subst hzz
  rw [if_pos h0]
  have h00 : ∀ zero : Array Value, ((Array.range 0).map fun (i : Nat) => zero[i % zero.size]!) = ([] : List Value).toArray := by intro zero; simp
  simp only [Sem.run_bind, Sem.run_pure, Result.andThen_ok, h0, h00, hfill]
  simp [newRow]
 ·
  rw [if_neg h0]
  simp only [Sem.run_bind, hz', Result.andThen_ok, Sem.run_pure, hcz, hcells, hfill]
  simp [newRow]
theorem W.newSl {T : Tab} (hT : TabOk P T) {all : Array Oper} {d : Nat} {t e ty m bytes len : Nat} {pos : String} {af : Array Edge} {l : List Oper} {ps : List (Nat × Operand)} {z : Value} {zs zz out : List Value}
  {pl : List (Nat × Nat)} {q : List (Nat × List Value)}
  (ht : look? T.sls t = some e) (hi : look? T.infs e = some (m, bytes)) (hz : look? T.zeros e = some z) (hzc : cells? z = some zs) (hzl : zs.length = m) (hrep : norm? (repL len zs) = some zz)
  (hpl : ∀ i o k, pl[i]? = some (o, k) → o = i * m ∧ k = m) (hq : parts? ρ pl ps = some q) (hf : Fills pl ρ ps) (ho : lay? zz q = some out) (hlen : len * m ≤ 16777216) (hd : d < n)
  (hk : ∀ b, W P n R cx (.ops all l :: k) ((d, .slice (some ⟨b, 0, none⟩) len len) :: ρ) ([(b, .cells out.toArray e (0, 0))] :: L)) :
  W P n R cx (.ops all (⟨some d, .buildSlice t len ps.toArray, ty, pos, af, none⟩ :: l) :: k) ρ L :=
 W.newOf (NewOf.newSl hT ht hi hz hzc hzl hrep hpl hq hf ho hlen).go hd hk
theorem take?_of (l : List Value) (m : Nat) (h : m ≤ l.length) : take? l m = some (l.take m) := by
 induction l generalizing m with
 | nil => simp at h; subst h; rfl
 | cons x l ih =>
  cases m with
  | zero => rfl
  | succ m => simp only [take?, ih m (by simpa using h)]; rfl
theorem seg?_of (l : List Value) (o m : Nat) (h : o + m ≤ l.length) : seg? l o m = some ((l.drop o).take m) := by
 induction l generalizing o with
 | nil =>
  simp at h
  obtain ⟨rfl, rfl⟩ := h
  rfl
 | cons x l ih =>
  cases o with
  | zero => simpa [seg?] using take?_of (x :: l) m (by simpa using h)
  | succ o => simpa [seg?] using ih o (by simp at h; omega)
theorem splice?_of (l : List Value) (o : Nat) (vs : List Value) (h : o + vs.length ≤ l.length) : splice? l o vs = some (l.take o ++ vs ++ l.drop (o + vs.length)) := by
 induction l generalizing o vs with
 | nil => simp at h; obtain ⟨rfl, rfl⟩ := h; rfl
 | cons x l ih =>
  cases o with
  | zero =>
   cases vs with
   | nil => simp [splice?]
   | cons u us =>
    have := ih 0 us (by simpa using h)
    simp only [splice?, this]
    simp
  | succ o =>
   have := ih o vs (by simp at h; omega)
   simp only [splice?, this]
   simp [show o + 1 + vs.length = (o + vs.length) + 1 from by omega]
def RoSl (m : Nat) (cs : List Value) (a : Option Addr) (len : Nat) (ro : HL) : Prop :=
 cs.length = len * m ∧ ((len = 0 ∧ ro = []) ∨ ∃ b off l e fr, a = some ⟨b, off, none⟩ ∧ ro = [(b, .cells (List.toArray l) e fr)] ∧ off + len * m ≤ l.length ∧ (l.drop off).take (len * m) = cs)
theorem flatMap_seg {α : Type} (f : α → List Value) (m : Nat) (hf : ∀ x, (f x).length = m) : ∀ (xs : List α) (i : Nat) (hi : i < xs.length), ((xs.flatMap f).drop (i * m)).take m = f xs[i]
 | [], i, hi => by simp at hi
 | x :: xs, 0, _ => by
  simp only [List.flatMap_cons, Nat.zero_mul, List.drop_zero, List.getElem_cons_zero]
  rw [← hf x]
  exact List.take_left
 | x :: xs, i + 1, hi => by
  have ih := flatMap_seg f m hf xs i (by simpa using hi)
  simp only [List.flatMap_cons, List.getElem_cons_succ]
  rw [show (i + 1) * m = (f x).length + i * m from by rw [hf x, Nat.add_mul]; omega, ← List.drop_drop, List.drop_left]
  exact ih
theorem flatMap_len {α : Type} (f : α → List Value) (m : Nat) (hf : ∀ x, (f x).length = m) (xs : List α) : (xs.flatMap f).length = xs.length * m := by
 induction xs with
 | nil => simp
 | cons x xs ih => simp [List.flatMap_cons, hf, ih, Nat.add_mul]; omega
theorem RoSl.elem {α : Type} {f : α → List Value} {m : Nat} (hf : ∀ x, (f x).length = m) {xs : List α} {l : List Value} {off : Nat} (hl : off + xs.length * m ≤ l.length) (h : (l.drop off).take (xs.length * m) = xs.flatMap f)
  {i : Nat} (hi : i < xs.length) : seg? l (off + i * m) m = some (f xs[i]) := by
 have h1 : i * m + m ≤ xs.length * m := by
  rw [← Nat.succ_mul]; exact Nat.mul_le_mul_right m hi
 rw [seg?_of _ _ _ (by omega)]
 congr 1
 have h2 := flatMap_seg f m hf xs i hi
 rw [← h, ← List.drop_drop] at *
 rw [← h2, List.drop_take, List.take_take]
 congr 1
 omega
def apl (m : Nat) : Nat → Nat → List (Nat × Nat)
 | _, 0 => []
 | i, c + 1 => (i * m, m) :: apl m (i + 1) c
theorem apl_ok (m : Nat) : ∀ (c i0 i o k : Nat), (apl m i0 c)[i]? = some (o, k) → o = (i0 + i) * m ∧ k = m
 | 0, _, _, _, _, h => by simp [apl] at h
 | c + 1, i0, 0, o, k, h => by simp [apl] at h; obtain ⟨rfl, rfl⟩ := h; simp
 | c + 1, i0, i + 1, o, k, h => by
  have := apl_ok m c (i0 + 1) i o k (by simpa [apl] using h)
  rw [show i0 + (i + 1) = i0 + 1 + i from by omega]
  exact this
theorem NewOf.slit {T : Tab} (hT : TabOk P T) {t e ty m bytes len : Nat} {ps : List (Nat × Operand)} {z : Value} {zs zz out : List Value}
  {q : List (Nat × List Value)}
  (ht : look? T.sls t = some e) (hi : look? T.infs e = some (m, bytes)) (hz : look? T.zeros e = some z) (hzc : cells? z = some zs) (hzl : zs.length = m) (hrep : norm? (repL len zs) = some zz)
  (hq : parts? ρ (apl m 0 len) ps = some q) (hf : Fills (apl m 0 len) ρ ps) (ho : lay? zz q = some out) (hlen : len * m ≤ 16777216) :
  NewOf P n R cx (.buildSlice t len ps.toArray) ty ρ L (.cells out.toArray e (0, 0)) (fun b => .slice (some ⟨b, 0, none⟩) len len) :=
 NewOf.newSl hT ht hi hz hzc hzl hrep (fun i o k h => by have := apl_ok m len 0 i o k h; simpa using this) hq hf ho hlen
theorem W.slit {T : Tab} (hT : TabOk P T) {all : Array Oper} {d : Nat} {t e ty m bytes len : Nat} {pos : String} {af : Array Edge} {l : List Oper} {ps : List (Nat × Operand)} {z : Value} {zs zz out : List Value}
  {q : List (Nat × List Value)}
  (ht : look? T.sls t = some e) (hi : look? T.infs e = some (m, bytes)) (hz : look? T.zeros e = some z) (hzc : cells? z = some zs) (hzl : zs.length = m) (hrep : norm? (repL len zs) = some zz)
  (hq : parts? ρ (apl m 0 len) ps = some q) (hf : Fills (apl m 0 len) ρ ps) (ho : lay? zz q = some out) (hlen : len * m ≤ 16777216) (hd : d < n)
  (hk : ∀ b, W P n R cx (.ops all l :: k) ((d, .slice (some ⟨b, 0, none⟩) len len) :: ρ) ([(b, .cells out.toArray e (0, 0))] :: L)) :
  W P n R cx (.ops all (⟨some d, .buildSlice t len ps.toArray, ty, pos, af, none⟩ :: l) :: k) ρ L :=
 W.newSl hT ht hi hz hzc hzl hrep (fun i o k h => by have := apl_ok m len 0 i o k h; simpa using this) hq hf ho hlen hd hk
end
end Go.Sl
namespace Go.Proofs.YtfpghdcjdnifcaaGreat
open Go Go.Sl
set_option maxRecDepth 20000
set_option maxHeartbeats 8000000
def AllP {α : Type} (Q : α → Prop) : List α → Prop
 | [] => True
 | a :: l => Q a ∧ AllP Q l
theorem allP {α : Type} {Q : α → Prop} : ∀ {l : List α}, AllP Q l → ∀ x ∈ l, Q x
 | _ :: _, h, _, hx => (List.mem_cons.1 hx).elim (fun e => e ▸ h.1) (allP h.2 _)
theorem fo {e : TypeId × Nat × Nat} (h : FieldAt Tryz.prog e := by intro b o w; simp [Instr.fieldAt, Instr.sureAddr, fieldPlace, Go.Sl.Addr.add_none']) : FieldAt Tryz.prog e := h
theorem ty_3 : IsAgg Tryz.prog 3 false ∧ SizeOf Tryz.prog 3 1 := ⟨Tryz.isAgg3, Tryz.sizeOf3⟩
theorem ty_4 : IsAgg Tryz.prog 4 false ∧ SizeOf Tryz.prog 4 1 := ⟨Tryz.isAgg4, Tryz.sizeOf4⟩
theorem ty_5 : IsAgg Tryz.prog 5 false ∧ SizeOf Tryz.prog 5 1 := ⟨Tryz.isAgg5, Tryz.sizeOf5⟩
theorem ty_55 : IsAgg Tryz.prog 55 false ∧ SizeOf Tryz.prog 55 1 := ⟨Tryz.isAgg55, Tryz.sizeOf55⟩
theorem ty_178 : IsAgg Tryz.prog 178 true ∧ SizeOf Tryz.prog 178 3 := ⟨Tryz.isAgg178, Tryz.sizeOf178⟩
theorem ty_248 : IsAgg Tryz.prog 248 true ∧ SizeOf Tryz.prog 248 6 := ⟨Tryz.isAgg248, Tryz.sizeOf248⟩
theorem ty_273 : IsAgg Tryz.prog 273 true ∧ SizeOf Tryz.prog 273 3 := ⟨Tryz.isAgg273, Tryz.sizeOf273⟩
theorem ty_308 : IsAgg Tryz.prog 308 false ∧ SizeOf Tryz.prog 308 1 := ⟨Tryz.isAgg308, Tryz.sizeOf308⟩
theorem ty_325 : IsAgg Tryz.prog 325 true ∧ SizeOf Tryz.prog 325 4 := ⟨Tryz.isAgg325, Tryz.sizeOf325⟩
theorem ty_326 : IsAgg Tryz.prog 326 true ∧ SizeOf Tryz.prog 326 32 := ⟨Tryz.isAgg326, Tryz.sizeOf326⟩
theorem ty_328 : IsAgg Tryz.prog 328 true ∧ SizeOf Tryz.prog 328 37 := ⟨Tryz.isAgg328, Tryz.sizeOf328⟩
theorem ty_392 : IsAgg Tryz.prog 392 true ∧ SizeOf Tryz.prog 392 256 := ⟨Tryz.isAgg392, Tryz.sizeOf392⟩
theorem ze_3 : ZeroOf Tryz.prog 3 (.int .i64 0) := Tryz.zeroValue3
theorem ze_54 : ZeroOf Tryz.prog 54 (.slice none 0 0) := Tryz.zeroValue54
def tab : Tab where
 offs := [(24, 0, 0), (24, 1, 1), (24, 2, 2), (24, 3, 3), (33, 0, 0), (33, 1, 1), (45, 0, 0), (45, 1, 4), (45, 2, 5), (45, 3, 6), (45, 4, 7), (48, 0, 0), (48, 1, 8), (48, 2, 9), (51, 0, 0), (51, 1, 1), (51, 2, 11), (57, 0, 0), (57, 1, 1), (57, 2, 2), (57, 3, 3), (57, 4, 4), (57, 5, 5), (59, 0, 0), (59, 1, 1), (59, 2, 2), (59, 3, 3), (59, 4, 4), (59, 5, 5), (63, 0, 0), (63, 1, 1), (63, 2, 2), (63, 3, 3), (63, 4, 4), (78, 0, 0), (78, 1, 1), (82, 0, 0), (82, 1, 1), (82, 2, 2), (82, 3, 3), (92, 0, 0), (92, 1, 1), (92, 2, 2), (99, 5, 5), (109, 0, 0), (109, 1, 1), (109, 2, 2), (109, 3, 3), (109, 4, 4), (109, 5, 5), (109, 6, 6), (109, 7, 11), (113, 0, 0), (113, 1, 1), (116, 0, 0), (116, 1, 2), (116, 2, 3), (116, 3, 4), (116, 4, 5), (116, 5, 6), (120, 0, 0), (120, 1, 7), (120, 2, 8), (120, 3, 9), (120, 4, 10), (120, 5, 11), (120, 6, 17), (122, 0, 0), (122, 1, 1), (124, 0, 0), (124, 1, 1), (126, 0, 0), (126, 1, 18), (126, 2, 21), (126, 3, 23), (136, 0, 0), (136, 1, 1), (136, 2, 2), (138, 0, 0), (153, 0, 0), (153, 1, 1), (153, 2, 2), (156, 0, 0), (156, 1, 1), (162, 0, 0), (162, 1, 4), (162, 2, 5), (162, 3, 6), (162, 4, 7), (162, 5, 8), (162, 6, 9), (162, 7, 10), (178, 0, 0), (178, 1, 1), (178, 2, 2), (208, 0, 0), (208, 1, 2), (208, 2, 7), (214, 0, 0), (214, 1, 1), (214, 2, 2), (217, 0, 0), (217, 1, 1), (217, 2, 2), (236, 0, 0), (236, 1, 1), (236, 2, 2), (236, 3, 3), (238, 0, 0), (241, 0, 0), (248, 0, 0), (248, 1, 1), (252, 0, 0), (252, 1, 1), (252, 2, 2), (252, 3, 3), (252, 4, 4), (252, 5, 5), (252, 6, 11), (273, 0, 0), (273, 1, 1), (273, 2, 2), (297, 0, 0), (297, 1, 1), (297, 2, 2), (302, 0, 0), (302, 1, 2), (314, 0, 0), (314, 1, 1), (314, 2, 2), (317, 0, 0), (317, 1, 1), (317, 2, 2), (320, 0, 0), (320, 1, 1), (320, 2, 2), (320, 3, 3), (320, 4, 4), (320, 5, 5), (322, 0, 0), (322, 1, 1), (325, 0, 0), (325, 1, 1), (325, 2, 2), (325, 3, 3), (328, 0, 0), (328, 1, 4), (328, 2, 5), (331, 0, 0), (331, 1, 1), (337, 0, 0), (337, 1, 1), (337, 2, 2), (350, 0, 0), (350, 1, 1), (350, 2, 12), (364, 0, 0), (364, 1, 1), (367, 0, 0), (367, 1, 1), (367, 2, 2), (367, 3, 3), (367, 4, 4), (367, 5, 5), (370, 0, 0), (370, 1, 1), (370, 2, 2), (370, 3, 3), (370, 4, 4), (445, 0, 0), (445, 1, 1), (445, 2, 2), (445, 3, 3), (448, 0, 0), (448, 2, 2), (448, 3, 3)]
 tys := [(1, false, 1), (2, false, 1), (3, false, 1), (4, false, 1), (5, false, 1), (9, false, 1), (12, false, 1), (13, true, 2), (20, false, 1), (21, false, 1), (22, false, 1), (23, true, 4), (24, true, 4), (25, false, 1), (26, false, 1), (27, false, 1), (28, false, 1), (30, false, 1), (31, false, 1), (32, true, 2), (33, true, 2), (35, false, 1), (36, false, 1), (37, false, 1), (38, false, 1), (39, false, 1), (40, false, 1), (41, false, 1), (42, false, 1), (43, false, 1), (44, true, 8), (45, true, 8), (46, false, 1), (47, true, 10), (48, true, 10), (49, false, 1), (50, true, 12), (51, true, 12), (52, false, 1), (53, false, 1), (54, false, 1), (55, false, 1), (56, true, 6), (57, true, 6), (58, true, 11), (59, true, 11), (60, false, 1), (61, false, 1), (62, true, 5), (63, true, 5), (64, false, 1), (65, false, 1), (66, false, 1), (67, false, 1), (68, false, 1), (69, false, 1), (70, false, 1), (72, false, 1), (73, false, 1), (74, false, 1), (75, false, 1), (76, false, 1), (77, true, 9), (78, true, 9), (79, false, 1), (80, false, 1), (81, true, 8), (82, true, 8), (83, false, 1), (84, false, 1), (85, false, 1), (86, false, 1), (87, false, 1), (88, false, 1), (90, false, 1), (91, true, 3), (92, true, 3), (93, false, 1), (94, false, 1), (95, false, 1), (97, false, 1), (98, true, 11), (99, true, 11), (100, false, 1), (101, false, 1), (102, false, 1), (103, false, 1), (104, false, 1), (105, false, 1), (106, false, 1), (107, false, 1), (108, true, 12), (109, true, 12), (110, false, 1), (111, false, 1), (112, true, 2), (113, true, 2), (114, false, 1), (115, true, 7), (116, true, 7), (117, false, 1), (118, false, 1), (119, true, 18), (120, true, 18), (121, true, 3), (122, true, 3), (123, true, 2), (124, true, 2), (125, true, 25), (126, true, 25), (127, false, 1), (128, false, 1), (129, false, 1), (131, false, 1), (132, false, 1), (133, false, 1), (134, false, 1), (135, true, 3), (136, true, 3), (137, true, 1), (138, true, 1), (140, false, 1), (141, false, 1), (143, false, 1), (144, false, 1), (145, false, 1), (146, false, 1), (147, false, 1), (148, false, 1), (149, false, 1), (150, false, 1), (151, false, 1), (152, true, 3), (153, true, 3), (154, false, 1), (155, true, 5), (156, true, 5), (157, false, 1), (158, false, 1), (159, false, 1), (160, false, 1), (161, true, 11), (162, true, 11), (164, false, 1), (165, false, 1), (167, false, 1), (169, false, 1), (170, false, 1), (172, false, 1), (173, false, 1), (174, false, 1), (175, false, 1), (176, false, 1), (177, true, 3), (178, true, 3), (179, false, 1), (180, false, 1), (181, false, 1), (182, false, 1), (184, false, 1), (185, false, 1), (187, false, 1), (188, false, 1), (189, false, 1), (190, false, 1), (191, false, 1), (192, false, 1), (193, false, 1), (194, false, 1), (195, false, 1), (196, false, 1), (198, false, 1), (199, false, 1), (200, false, 1), (201, false, 1), (203, false, 1), (205, false, 1), (206, false, 1), (207, true, 8), (208, true, 8), (209, false, 1), (210, false, 1), (211, false, 1), (212, false, 1), (213, true, 3), (214, true, 3), (215, true, 24), (216, true, 26), (217, true, 26), (218, false, 1), (219, false, 1), (220, false, 1), (221, false, 1), (222, false, 1), (223, false, 1), (224, false, 1), (225, false, 1), (227, false, 1), (229, false, 1), (230, false, 1), (231, false, 1), (232, false, 1), (233, false, 1), (234, false, 1), (235, true, 4), (236, true, 4), (237, true, 1), (238, true, 1), (239, false, 1), (240, true, 1), (241, true, 1), (243, false, 1), (244, false, 1), (246, false, 1), (247, true, 6), (248, true, 6), (249, false, 1), (250, false, 1), (251, true, 12), (252, true, 12), (253, false, 1), (254, false, 1), (255, false, 1), (256, false, 1), (257, false, 1), (258, false, 1), (260, false, 1), (261, false, 1), (262, false, 1), (264, false, 1), (265, false, 1), (267, false, 1), (268, false, 1), (269, false, 1), (270, false, 1), (271, false, 1), (272, true, 3), (273, true, 3), (275, false, 1), (276, false, 1), (277, false, 1), (278, false, 1), (279, false, 1), (280, false, 1), (281, false, 1), (283, false, 1), (284, false, 1), (285, false, 1), (286, false, 1), (287, false, 1), (289, false, 1), (291, false, 1), (292, false, 1), (294, false, 1), (295, false, 1), (296, true, 3), (297, true, 3), (298, false, 1), (299, false, 1), (300, false, 1), (301, true, 3), (302, true, 3), (303, false, 1), (304, false, 1), (305, false, 1), (306, false, 1), (307, false, 1), (308, false, 1), (309, false, 1), (310, false, 1), (311, false, 1), (312, false, 1), (313, true, 3), (314, true, 3), (315, false, 1), (316, true, 3), (317, true, 3), (318, false, 1), (319, true, 6), (320, true, 6), (321, true, 2), (322, true, 2), (323, false, 1), (324, true, 4), (325, true, 4), (326, true, 32), (327, true, 37), (328, true, 37), (329, false, 1), (330, true, 6), (331, true, 6), (332, false, 1), (333, false, 1), (335, false, 1), (336, false, 1), (337, true, 3), (338, false, 1), (339, false, 1), (340, false, 1), (341, false, 1), (342, false, 1), (343, false, 1), (344, true, 9), (345, false, 1), (347, false, 1), (348, false, 1), (349, true, 18), (350, true, 18), (351, false, 1), (352, false, 1), (355, false, 1), (356, false, 1), (358, false, 1), (359, false, 1), (360, false, 1), (361, false, 1), (362, false, 1), (363, true, 2), (364, true, 2), (365, false, 1), (366, true, 6), (367, true, 6), (368, false, 1), (369, true, 10), (370, true, 10), (372, false, 1), (373, false, 1), (374, false, 1), (375, false, 1), (376, true, 9), (377, false, 1), (378, false, 1), (379, false, 1), (380, false, 1), (381, false, 1), (382, false, 1), (383, false, 1), (384, false, 1), (385, false, 1), (386, false, 1), (387, false, 1), (388, false, 1), (389, false, 1), (390, false, 1), (391, false, 1), (392, true, 256), (393, false, 1), (394, false, 1), (396, false, 1), (397, false, 1), (399, false, 1), (400, false, 1), (401, false, 1), (402, false, 1), (403, false, 1), (405, false, 1), (406, false, 1), (407, false, 1), (408, false, 1), (409, false, 1), (410, false, 1), (411, false, 1), (412, false, 1), (413, false, 1), (414, false, 1), (416, false, 1), (417, false, 1), (419, false, 1), (421, false, 1), (422, false, 1), (423, false, 1), (424, false, 1), (425, false, 1), (426, false, 1), (427, false, 1), (428, false, 1), (429, false, 1), (430, false, 1), (431, false, 1), (432, false, 1), (433, false, 1), (434, false, 1), (435, false, 1), (437, false, 1), (438, false, 1), (439, false, 1), (440, false, 1), (441, false, 1), (442, false, 1), (443, false, 1), (444, true, 4), (445, true, 4), (446, false, 1), (447, false, 1), (448, true, 4), (449, false, 1), (450, false, 1), (451, true, 6), (453, false, 1), (454, false, 1), (456, false, 1), (457, false, 1), (458, false, 1), (459, false, 1), (460, false, 1), (461, false, 1), (462, false, 1), (463, false, 1), (464, false, 1), (466, false, 1), (467, false, 1), (468, false, 1), (469, false, 1), (470, false, 1), (471, false, 1), (472, false, 1), (480, false, 1), (481, false, 1), (486, false, 1)]
 zeros := [(1, .nilFunc), (2, .int .i64 0), (3, .int .i64 0), (4, .bool false), (5, .int .u8 0), (9, .string ⟨#[]⟩), (12, .int .u64 0), (13, .agg #[.string ⟨#[]⟩, .int .u64 0]), (20, .nilIface), (21, .int .i32 0), (22, .slice none 0 0), (23, .agg #[.int .i64 0, .int .i64 0, .int .i64 0, .slice none 0 0]), (24, .agg #[.int .i64 0, .int .i64 0, .int .i64 0, .slice none 0 0]), (25, .nilFunc), (26, .slice none 0 0), (27, .pointer none), (28, .int .i64 0), (30, .nilFunc), (31, .nilFunc), (32, .agg #[.int .i64 0, .int .i64 0]), (33, .agg #[.int .i64 0, .int .i64 0]), (35, .nilFunc), (36, .nilFunc), (37, .nilFunc), (38, .nilFunc), (39, .pointer none), (40, .nilFunc), (41, .nilFunc), (42, .nilFunc), (43, .slice none 0 0), (44, .agg #[.int .i64 0, .int .i64 0, .int .i64 0, .slice none 0 0, .slice none 0 0, .int .i64 0, .int .i64 0, .int .i64 0]), (45, .agg #[.int .i64 0, .int .i64 0, .int .i64 0, .slice none 0 0, .slice none 0 0, .int .i64 0, .int .i64 0, .int .i64 0]), (46, .slice none 0 0), (47, .agg #[.int .i64 0, .int .i64 0, .int .i64 0, .slice none 0 0, .slice none 0 0, .int .i64 0, .int .i64 0, .int .i64 0, .slice none 0 0, .int .i64 0]), (48, .agg #[.int .i64 0, .int .i64 0, .int .i64 0, .slice none 0 0, .slice none 0 0, .int .i64 0, .int .i64 0, .int .i64 0, .slice none 0 0, .int .i64 0]), (49, .slice none 0 0), (50, .agg #[.pointer none, .int .i64 0, .int .i64 0, .int .i64 0, .slice none 0 0, .slice none 0 0, .int .i64 0, .int .i64 0, .int .i64 0, .slice none 0 0, .int .i64 0, .slice none 0 0]), (51, .agg #[.pointer none, .int .i64 0, .int .i64 0, .int .i64 0, .slice none 0 0, .slice none 0 0, .int .i64 0, .int .i64 0, .int .i64 0, .slice none 0 0, .int .i64 0, .slice none 0 0]), (52, .nilFunc), (53, .int .i64 0), (54, .slice none 0 0), (55, .int .u64 0), (56, .agg #[.int .u64 0, .int .u64 0, .int .u64 0, .int .u64 0, .int .u64 0, .int .u64 0]), (57, .agg #[.int .u64 0, .int .u64 0, .int .u64 0, .int .u64 0, .int .u64 0, .int .u64 0]), (58, .agg #[.int .i64 0, .int .i64 0, .bool false, .int .i64 0, .slice none 0 0, .int .u64 0, .int .u64 0, .int .u64 0, .int .u64 0, .int .u64 0, .int .u64 0]), (59, .agg #[.int .i64 0, .int .i64 0, .bool false, .int .i64 0, .slice none 0 0, .int .u64 0, .int .u64 0, .int .u64 0, .int .u64 0, .int .u64 0, .int .u64 0]), (60, .nilFunc), (61, .nilFunc), (62, .agg #[.int .i64 0, .int .i64 0, .int .i64 0, .int .i64 0, .slice none 0 0]), (63, .agg #[.int .i64 0, .int .i64 0, .int .i64 0, .int .i64 0, .slice none 0 0]), (64, .nilFunc), (65, .nilFunc), (66, .slice none 0 0), (67, .slice none 0 0), (68, .nilFunc), (69, .nilFunc), (70, .pointer none), (72, .nilFunc), (73, .nilFunc), (74, .slice none 0 0), (75, .pointer none), (76, .nilFunc), (77, .agg #[.pointer none, .int .i64 0, .int .i64 0, .int .i64 0, .slice none 0 0, .slice none 0 0, .int .i64 0, .int .i64 0, .int .i64 0]), (78, .agg #[.pointer none, .int .i64 0, .int .i64 0, .int .i64 0, .slice none 0 0, .slice none 0 0, .int .i64 0, .int .i64 0, .int .i64 0]), (79, .slice none 0 0), (80, .nilFunc), (81, .agg #[.int .i64 0, .int .i64 0, .int .i64 0, .int .i64 0, .int .i64 0, .int .i64 0, .int .i64 0, .slice none 0 0]), (82, .agg #[.int .i64 0, .int .i64 0, .int .i64 0, .int .i64 0, .int .i64 0, .int .i64 0, .int .i64 0, .slice none 0 0]), (83, .slice none 0 0), (84, .nilFunc), (85, .nilFunc), (86, .slice none 0 0), (87, .nilFunc), (88, .nilFunc), (90, .nilFunc), (91, .agg #[.int .i64 0, .int .i64 0, .int .i64 0]), (92, .agg #[.int .i64 0, .int .i64 0, .int .i64 0]), (93, .nilFunc), (94, .slice none 0 0), (95, .slice none 0 0), (97, .nilFunc), (98, .agg #[.int .i64 0, .int .i64 0, .bool false, .int .i64 0, .string ⟨#[]⟩, .int .u64 0, .int .u64 0, .int .u64 0, .int .u64 0, .int .u64 0, .int .u64 0]), (99, .agg #[.int .i64 0, .int .i64 0, .bool false, .int .i64 0, .string ⟨#[]⟩, .int .u64 0, .int .u64 0, .int .u64 0, .int .u64 0, .int .u64 0, .int .u64 0]), (100, .nilFunc), (101, .nilFunc), (102, .nilFunc), (103, .nilFunc), (104, .nilFunc), (105, .nilFunc), (106, .slice none 0 0), (107, .nilFunc), (108, .agg #[.int .i64 0, .int .i64 0, .int .i64 0, .int .i64 0, .int .i64 0, .int .i64 0, .int .i64 0, .int .i64 0, .int .i64 0, .int .i64 0, .slice none 0 0, .slice none 0 0]), (109, .agg #[.int .i64 0, .int .i64 0, .int .i64 0, .int .i64 0, .int .i64 0, .int .i64 0, .int .i64 0, .int .i64 0, .int .i64 0, .int .i64 0, .slice none 0 0, .slice none 0 0]), (110, .nilFunc), (111, .slice none 0 0), (112, .agg #[.slice none 0 0, .int .i64 0]), (113, .agg #[.slice none 0 0, .int .i64 0]), (114, .slice none 0 0), (115, .agg #[.slice none 0 0, .int .i64 0, .int .i64 0, .int .i64 0, .slice none 0 0, .int .i64 0, .slice none 0 0]), (116, .agg #[.slice none 0 0, .int .i64 0, .int .i64 0, .int .i64 0, .slice none 0 0, .int .i64 0, .slice none 0 0]), (117, .slice none 0 0), (118, .slice none 0 0), (119, .agg #[.slice none 0 0, .int .i64 0, .int .i64 0, .int .i64 0, .slice none 0 0, .int .i64 0, .slice none 0 0, .int .i64 0, .int .i64 0, .slice none 0 0, .int .i64 0, .int .u64 0, .int .u64 0, .int .u64 0, .int .u64 0, .int .u64 0, .int .u64 0, .slice none 0 0]), (120, .agg #[.slice none 0 0, .int .i64 0, .int .i64 0, .int .i64 0, .slice none 0 0, .int .i64 0, .slice none 0 0, .int .i64 0, .int .i64 0, .slice none 0 0, .int .i64 0, .int .u64 0, .int .u64 0, .int .u64 0, .int .u64 0, .int .u64 0, .int .u64 0, .slice none 0 0]), (121, .agg #[.slice none 0 0, .slice none 0 0, .slice none 0 0]), (122, .agg #[.slice none 0 0, .slice none 0 0, .slice none 0 0]), (123, .agg #[.slice none 0 0, .int .i64 0]), (124, .agg #[.slice none 0 0, .int .i64 0]), (125, .agg #[.slice none 0 0, .int .i64 0, .int .i64 0, .int .i64 0, .slice none 0 0, .int .i64 0, .slice none 0 0, .int .i64 0, .int .i64 0, .slice none 0 0, .int .i64 0, .int .u64 0, .int .u64 0, .int .u64 0, .int .u64 0, .int .u64 0, .int .u64 0, .slice none 0 0, .slice none 0 0, .slice none 0 0, .slice none 0 0, .slice none 0 0, .int .i64 0, .slice none 0 0, .int .i64 0]), (126, .agg #[.slice none 0 0, .int .i64 0, .int .i64 0, .int .i64 0, .slice none 0 0, .int .i64 0, .slice none 0 0, .int .i64 0, .int .i64 0, .slice none 0 0, .int .i64 0, .int .u64 0, .int .u64 0, .int .u64 0, .int .u64 0, .int .u64 0, .int .u64 0, .slice none 0 0, .slice none 0 0, .slice none 0 0, .slice none 0 0, .slice none 0 0, .int .i64 0, .slice none 0 0, .int .i64 0]), (127, .nilFunc), (128, .nilFunc), (129, .nilFunc), (131, .nilFunc), (132, .nilFunc), (133, .pointer none), (134, .slice none 0 0), (135, .agg #[.pointer none, .int .i64 0, .slice none 0 0]), (136, .agg #[.pointer none, .int .i64 0, .slice none 0 0]), (137, .agg #[.pointer none]), (138, .agg #[.pointer none]), (140, .nilFunc), (141, .pointer none), (143, .nilFunc), (144, .nilFunc), (145, .nilFunc), (146, .nilFunc), (147, .nilFunc), (148, .nilFunc), (149, .nilFunc), (150, .nilFunc), (151, .slice none 0 0), (152, .agg #[.int .i64 0, .int .i64 0, .slice none 0 0]), (153, .agg #[.int .i64 0, .int .i64 0, .slice none 0 0]), (154, .nilFunc), (155, .agg #[.int .i64 0, .int .i64 0, .int .i64 0, .int .i64 0, .slice none 0 0]), (156, .agg #[.int .i64 0, .int .i64 0, .int .i64 0, .int .i64 0, .slice none 0 0]), (157, .pointer none), (158, .pointer none), (159, .pointer none), (160, .slice none 0 0), (161, .agg #[.int .i64 0, .int .i64 0, .int .i64 0, .slice none 0 0, .pointer none, .pointer none, .pointer none, .slice none 0 0, .int .i64 0, .int .i64 0, .int .i64 0]), (162, .agg #[.int .i64 0, .int .i64 0, .int .i64 0, .slice none 0 0, .pointer none, .pointer none, .pointer none, .slice none 0 0, .int .i64 0, .int .i64 0, .int .i64 0]), (164, .nilFunc), (165, .nilFunc), (167, .nilFunc), (169, .nilFunc), (170, .pointer none), (172, .nilFunc), (173, .pointer none), (174, .nilFunc), (175, .pointer none), (176, .nilFunc), (177, .agg #[.pointer none, .pointer none, .pointer none]), (178, .agg #[.pointer none, .pointer none, .pointer none]), (179, .nilFunc), (180, .nilFunc), (181, .nilFunc), (182, .nilFunc), (184, .nilFunc), (185, .nilFunc), (187, .nilFunc), (188, .nilFunc), (189, .nilFunc), (190, .nilFunc), (191, .nilFunc), (192, .nilFunc), (193, .nilFunc), (194, .nilFunc), (195, .nilFunc), (196, .nilFunc), (198, .nilFunc), (199, .nilFunc), (200, .nilFunc), (201, .nilFunc), (203, .nilFunc), (205, .nilFunc), (206, .nilFunc), (207, .agg #[.int .i64 0, .int .i64 0, .int .i64 0, .int .i64 0, .int .i64 0, .int .i64 0, .slice none 0 0, .int .i64 0]), (208, .agg #[.int .i64 0, .int .i64 0, .int .i64 0, .int .i64 0, .int .i64 0, .int .i64 0, .slice none 0 0, .int .i64 0]), (209, .nilFunc), (210, .nilFunc), (211, .nilFunc), (212, .nilFunc), (213, .agg #[.bool false, .int .i64 0, .int .i64 0]), (214, .agg #[.bool false, .int .i64 0, .int .i64 0]), (215, .agg #[.bool false, .int .i64 0, .int .i64 0, .bool false, .int .i64 0, .int .i64 0, .bool false, .int .i64 0, .int .i64 0, .bool false, .int .i64 0, .int .i64 0, .bool false, .int .i64 0, .int .i64 0, .bool false, .int .i64 0, .int .i64 0, .bool false, .int .i64 0, .int .i64 0, .bool false, .int .i64 0, .int .i64 0]), (216, .agg #[.int .i64 0, .int .i64 0, .bool false, .int .i64 0, .int .i64 0, .bool false, .int .i64 0, .int .i64 0, .bool false, .int .i64 0, .int .i64 0, .bool false, .int .i64 0, .int .i64 0, .bool false, .int .i64 0, .int .i64 0, .bool false, .int .i64 0, .int .i64 0, .bool false, .int .i64 0, .int .i64 0, .bool false, .int .i64 0, .int .i64 0]), (217, .agg #[.int .i64 0, .int .i64 0, .bool false, .int .i64 0, .int .i64 0, .bool false, .int .i64 0, .int .i64 0, .bool false, .int .i64 0, .int .i64 0, .bool false, .int .i64 0, .int .i64 0, .bool false, .int .i64 0, .int .i64 0, .bool false, .int .i64 0, .int .i64 0, .bool false, .int .i64 0, .int .i64 0, .bool false, .int .i64 0, .int .i64 0]), (218, .nilFunc), (219, .nilFunc), (220, .nilFunc), (221, .nilFunc), (222, .nilFunc), (223, .slice none 0 0), (224, .nilFunc), (225, .nilFunc), (227, .nilFunc), (229, .nilFunc), (230, .nilFunc), (231, .nilFunc), (232, .nilFunc), (233, .nilFunc), (234, .map none), (235, .agg #[.int .i64 0, .map none, .map none, .slice none 0 0]), (236, .agg #[.int .i64 0, .map none, .map none, .slice none 0 0]), (237, .agg #[.int .i64 0]), (238, .agg #[.int .i64 0]), (239, .slice none 0 0), (240, .agg #[.slice none 0 0]), (241, .agg #[.slice none 0 0]), (243, .nilFunc), (244, .pointer none), (246, .nilFunc), (247, .agg #[.int .i64 0, .int .i64 0, .int .i64 0, .int .i64 0, .int .i64 0, .slice none 0 0]), (248, .agg #[.int .i64 0, .int .i64 0, .int .i64 0, .int .i64 0, .int .i64 0, .slice none 0 0]), (249, .pointer none), (250, .nilFunc), (251, .agg #[.pointer none, .pointer none, .pointer none, .int .i64 0, .int .i64 0, .int .u64 0, .int .u64 0, .int .u64 0, .int .u64 0, .int .u64 0, .int .u64 0, .slice none 0 0]), (252, .agg #[.pointer none, .pointer none, .pointer none, .int .i64 0, .int .i64 0, .int .u64 0, .int .u64 0, .int .u64 0, .int .u64 0, .int .u64 0, .int .u64 0, .slice none 0 0]), (253, .nilFunc), (254, .nilFunc), (255, .nilFunc), (256, .nilFunc), (257, .nilFunc), (258, .nilFunc), (260, .nilFunc), (261, .nilFunc), (262, .nilFunc), (264, .nilFunc), (265, .nilFunc), (267, .nilFunc), (268, .nilFunc), (269, .nilFunc), (270, .nilFunc), (271, .nilFunc), (272, .agg #[.int .i64 0, .int .i64 0, .int .i64 0]), (273, .agg #[.int .i64 0, .int .i64 0, .int .i64 0]), (275, .nilFunc), (276, .nilFunc), (277, .nilFunc), (278, .nilFunc), (279, .nilFunc), (280, .nilFunc), (281, .map none), (283, .nilFunc), (284, .nilFunc), (285, .nilFunc), (286, .nilFunc), (287, .nilFunc), (289, .nilFunc), (291, .nilFunc), (292, .nilFunc), (294, .nilFunc), (295, .pointer none), (296, .agg #[.slice none 0 0, .int .i64 0, .bool false]), (297, .agg #[.slice none 0 0, .int .i64 0, .bool false]), (298, .nilFunc), (299, .nilFunc), (300, .nilFunc), (301, .agg #[.int .i64 0, .int .i64 0, .int .i64 0]), (302, .agg #[.int .i64 0, .int .i64 0, .int .i64 0]), (303, .nilFunc), (304, .nilFunc), (305, .pointer none), (306, .nilFunc), (307, .nilFunc), (308, .int .u32 0), (309, .nilFunc), (310, .int .u64 0), (311, .slice none 0 0), (312, .map none), (313, .agg #[.slice none 0 0, .map none, .int .i64 0]), (314, .agg #[.slice none 0 0, .map none, .int .i64 0]), (315, .slice none 0 0), (316, .agg #[.slice none 0 0, .int .i64 0, .int .i64 0]), (317, .agg #[.slice none 0 0, .int .i64 0, .int .i64 0]), (318, .slice none 0 0), (319, .agg #[.pointer none, .int .i64 0, .int .i64 0, .slice none 0 0, .int .i64 0, .slice none 0 0]), (320, .agg #[.pointer none, .int .i64 0, .int .i64 0, .slice none 0 0, .int .i64 0, .slice none 0 0]), (321, .agg #[.slice none 0 0, .int .i64 0]), (322, .agg #[.slice none 0 0, .int .i64 0]), (323, .nilFunc), (324, .agg #[.bool false, .bool false, .bool false, .int .i64 0]), (325, .agg #[.bool false, .bool false, .bool false, .int .i64 0]), (326, .agg #[.int .u8 0, .int .u8 0, .int .u8 0, .int .u8 0, .int .u8 0, .int .u8 0, .int .u8 0, .int .u8 0, .int .u8 0, .int .u8 0, .int .u8 0, .int .u8 0, .int .u8 0, .int .u8 0, .int .u8 0, .int .u8 0, .int .u8 0, .int .u8 0, .int .u8 0, .int .u8 0, .int .u8 0, .int .u8 0, .int .u8 0, .int .u8 0, .int .u8 0, .int .u8 0, .int .u8 0, .int .u8 0, .int .u8 0, .int .u8 0, .int .u8 0, .int .u8 0]), (327, .agg #[.bool false, .bool false, .bool false, .int .i64 0, .int .i64 0, .int .u8 0, .int .u8 0, .int .u8 0, .int .u8 0, .int .u8 0, .int .u8 0, .int .u8 0, .int .u8 0, .int .u8 0, .int .u8 0, .int .u8 0, .int .u8 0, .int .u8 0, .int .u8 0, .int .u8 0, .int .u8 0, .int .u8 0, .int .u8 0, .int .u8 0, .int .u8 0, .int .u8 0, .int .u8 0, .int .u8 0, .int .u8 0, .int .u8 0, .int .u8 0, .int .u8 0, .int .u8 0, .int .u8 0, .int .u8 0, .int .u8 0, .int .u8 0]), (328, .agg #[.bool false, .bool false, .bool false, .int .i64 0, .int .i64 0, .int .u8 0, .int .u8 0, .int .u8 0, .int .u8 0, .int .u8 0, .int .u8 0, .int .u8 0, .int .u8 0, .int .u8 0, .int .u8 0, .int .u8 0, .int .u8 0, .int .u8 0, .int .u8 0, .int .u8 0, .int .u8 0, .int .u8 0, .int .u8 0, .int .u8 0, .int .u8 0, .int .u8 0, .int .u8 0, .int .u8 0, .int .u8 0, .int .u8 0, .int .u8 0, .int .u8 0, .int .u8 0, .int .u8 0, .int .u8 0, .int .u8 0, .int .u8 0]), (329, .nilFunc), (330, .agg #[.int .i64 0, .int .i64 0, .int .i64 0, .int .i64 0, .int .i64 0, .slice none 0 0]), (331, .agg #[.int .i64 0, .int .i64 0, .int .i64 0, .int .i64 0, .int .i64 0, .slice none 0 0]), (332, .nilFunc), (333, .nilFunc), (335, .nilFunc), (336, .nilFunc), (337, .agg #[.int .i64 0, .int .i64 0, .int .i64 0]), (338, .nilFunc), (339, .nilFunc), (340, .nilFunc), (341, .nilFunc), (342, .nilFunc), (343, .nilFunc), (344, .agg #[.nilFunc, .nilFunc, .nilFunc, .nilFunc, .nilFunc, .nilFunc, .nilFunc, .nilFunc, .nilFunc]), (345, .nilFunc), (347, .nilFunc), (348, .nilFunc), (349, .agg #[.bool false, .int .i64 0, .int .i64 0, .bool false, .int .i64 0, .slice none 0 0, .int .u64 0, .int .u64 0, .int .u64 0, .int .u64 0, .int .u64 0, .int .u64 0, .int .u64 0, .int .u64 0, .int .u64 0, .int .u64 0, .int .u64 0, .int .u64 0]), (350, .agg #[.bool false, .int .i64 0, .int .i64 0, .bool false, .int .i64 0, .slice none 0 0, .int .u64 0, .int .u64 0, .int .u64 0, .int .u64 0, .int .u64 0, .int .u64 0, .int .u64 0, .int .u64 0, .int .u64 0, .int .u64 0, .int .u64 0, .int .u64 0]), (351, .nilFunc), (352, .nilFunc), (355, .nilFunc), (356, .nilFunc), (358, .nilFunc), (359, .nilFunc), (360, .nilFunc), (361, .nilFunc), (362, .nilFunc), (363, .agg #[.slice none 0 0, .bool false]), (364, .agg #[.slice none 0 0, .bool false]), (365, .nilFunc), (366, .agg #[.bool false, .bool false, .bool false, .int .i64 0, .int .i64 0, .string ⟨#[]⟩]), (367, .agg #[.bool false, .bool false, .bool false, .int .i64 0, .int .i64 0, .string ⟨#[]⟩]), (368, .nilFunc), (369, .agg #[.bool false, .int .i64 0, .bool false, .string ⟨#[]⟩, .int .u64 0, .int .u64 0, .int .u64 0, .int .u64 0, .int .u64 0, .int .u64 0]), (370, .agg #[.bool false, .int .i64 0, .bool false, .string ⟨#[]⟩, .int .u64 0, .int .u64 0, .int .u64 0, .int .u64 0, .int .u64 0, .int .u64 0]), (372, .nilFunc), (373, .nilFunc), (374, .nilFunc), (375, .nilFunc), (376, .agg #[.string ⟨#[]⟩, .string ⟨#[]⟩, .string ⟨#[]⟩, .string ⟨#[]⟩, .string ⟨#[]⟩, .string ⟨#[]⟩, .string ⟨#[]⟩, .string ⟨#[]⟩, .string ⟨#[]⟩]), (377, .nilFunc), (378, .nilFunc), (379, .nilFunc), (380, .map none), (381, .nilFunc), (382, .nilFunc), (383, .nilFunc), (384, .nilFunc), (385, .pointer none), (386, .nilFunc), (387, .nilFunc), (388, .nilFunc), (389, .nilFunc), (390, .nilFunc), (391, .nilFunc), (393, .nilFunc), (394, .nilFunc), (396, .nilFunc), (397, .nilFunc), (399, .nilFunc), (400, .nilFunc), (401, .slice none 0 0), (402, .nilFunc), (403, .nilFunc), (405, .nilFunc), (406, .nilFunc), (407, .nilFunc), (408, .nilFunc), (409, .nilFunc), (410, .nilFunc), (411, .nilFunc), (412, .nilFunc), (413, .slice none 0 0), (414, .nilFunc), (416, .nilFunc), (417, .nilFunc), (419, .nilFunc), (421, .nilFunc), (422, .nilFunc), (423, .nilFunc), (424, .pointer none), (425, .nilFunc), (426, .pointer none), (427, .nilFunc), (428, .nilFunc), (429, .nilFunc), (430, .nilFunc), (431, .nilFunc), (432, .nilFunc), (433, .pointer none), (434, .nilFunc), (435, .int .i64 0), (437, .nilFunc), (438, .nilFunc), (439, .nilFunc), (440, .nilFunc), (441, .nilFunc), (442, .nilFunc), (443, .slice none 0 0), (444, .agg #[.int .i64 0, .int .i64 0, .slice none 0 0, .int .i64 0]), (445, .agg #[.int .i64 0, .int .i64 0, .slice none 0 0, .int .i64 0]), (446, .nilFunc), (447, .nilFunc), (448, .agg #[.bool false, .bool false, .bool false, .int .i64 0]), (449, .nilFunc), (450, .nilFunc), (451, .agg #[.pointer none, .pointer none, .pointer none, .pointer none, .pointer none, .pointer none]), (453, .nilFunc), (454, .slice none 0 0), (456, .nilFunc), (457, .nilFunc), (458, .nilFunc), (459, .int .u64 0), (460, .nilFunc), (461, .nilFunc), (462, .pointer none), (463, .nilFunc), (464, .nilFunc), (466, .nilFunc), (467, .nilFunc), (468, .nilFunc), (469, .pointer none), (470, .nilFunc), (471, .nilFunc), (472, .nilFunc), (480, .nilFunc), (481, .pointer none), (486, .pointer none)]
 sls := [(22, 92), (26, 24), (43, 126), (46, 153), (49, 33), (54, 5), (66, 54), (67, 59), (74, 82), (79, 83), (83, 3), (86, 95), (94, 63), (95, 4), (106, 109), (111, 367), (114, 337), (117, 331), (118, 99), (134, 141), (151, 302), (160, 178), (223, 214), (239, 173), (311, 328), (315, 248), (318, 273), (401, 57), (413, 53), (443, 448), (454, 325)]
 ars := [(215, 8, 214), (326, 32, 5), (344, 9, 190), (376, 9, 9), (392, 256, 308), (451, 6, 424)]
 ints := [(2, .i64), (3, .i64), (5, .u8), (12, .u64), (21, .i32), (28, .i64), (53, .i64), (55, .u64), (308, .u32), (310, .u64), (435, .i64), (459, .u64)]
 strs := [9]
 bools := [4]
 ptrs := [(27, 138), (39, 51), (70, 162), (75, 78), (133, 136), (141, 217), (157, 236), (158, 241), (159, 238), (170, 252), (173, 314), (175, 322), (244, 317), (249, 320), (295, 297), (305, 364), (385, 328), (424, 55), (426, 57), (433, 325), (462, 3), (469, 459), (481, 5)]
 flds := [(13, [(0, 1), (1, 1)]), (23, [(0, 1), (1, 1), (2, 1), (3, 1)]), (24, [(0, 1), (1, 1), (2, 1), (3, 1)]), (32, [(0, 1), (1, 1)]), (33, [(0, 1), (1, 1)]), (44, [(0, 4), (4, 1), (5, 1), (6, 1), (7, 1)]), (45, [(0, 4), (4, 1), (5, 1), (6, 1), (7, 1)]), (47, [(0, 8), (8, 1), (9, 1)]), (48, [(0, 8), (8, 1), (9, 1)]), (50, [(0, 1), (1, 10), (11, 1)]), (51, [(0, 1), (1, 10), (11, 1)]), (56, [(0, 1), (1, 1), (2, 1), (3, 1), (4, 1), (5, 1)]), (57, [(0, 1), (1, 1), (2, 1), (3, 1), (4, 1), (5, 1)]), (58, [(0, 1), (1, 1), (2, 1), (3, 1), (4, 1), (5, 6)]), (59, [(0, 1), (1, 1), (2, 1), (3, 1), (4, 1), (5, 6)]), (62, [(0, 1), (1, 1), (2, 1), (3, 1), (4, 1)]), (63, [(0, 1), (1, 1), (2, 1), (3, 1), (4, 1)]), (77, [(0, 1), (1, 8)]), (78, [(0, 1), (1, 8)]), (81, [(0, 1), (1, 1), (2, 1), (3, 5)]), (82, [(0, 1), (1, 1), (2, 1), (3, 5)]), (91, [(0, 1), (1, 1), (2, 1)]), (92, [(0, 1), (1, 1), (2, 1)]), (98, [(0, 1), (1, 1), (2, 1), (3, 1), (4, 1), (5, 6)]), (99, [(0, 1), (1, 1), (2, 1), (3, 1), (4, 1), (5, 6)]), (108, [(0, 1), (1, 1), (2, 1), (3, 1), (4, 1), (5, 1), (6, 5), (11, 1)]), (109, [(0, 1), (1, 1), (2, 1), (3, 1), (4, 1), (5, 1), (6, 5), (11, 1)]), (112, [(0, 1), (1, 1)]), (113, [(0, 1), (1, 1)]), (115, [(0, 2), (2, 1), (3, 1), (4, 1), (5, 1), (6, 1)]), (116, [(0, 2), (2, 1), (3, 1), (4, 1), (5, 1), (6, 1)]), (119, [(0, 7), (7, 1), (8, 1), (9, 1), (10, 1), (11, 6), (17, 1)]), (120, [(0, 7), (7, 1), (8, 1), (9, 1), (10, 1), (11, 6), (17, 1)]), (121, [(0, 1), (1, 1), (2, 1)]), (122, [(0, 1), (1, 1), (2, 1)]), (123, [(0, 1), (1, 1)]), (124, [(0, 1), (1, 1)]), (125, [(0, 18), (18, 3), (21, 2), (23, 2)]), (126, [(0, 18), (18, 3), (21, 2), (23, 2)]), (135, [(0, 1), (1, 1), (2, 1)]), (136, [(0, 1), (1, 1), (2, 1)]), (137, [(0, 1)]), (138, [(0, 1)]), (152, [(0, 1), (1, 1), (2, 1)]), (153, [(0, 1), (1, 1), (2, 1)]), (155, [(0, 1), (1, 4)]), (156, [(0, 1), (1, 4)]), (161, [(0, 4), (4, 1), (5, 1), (6, 1), (7, 1), (8, 1), (9, 1), (10, 1)]), (162, [(0, 4), (4, 1), (5, 1), (6, 1), (7, 1), (8, 1), (9, 1), (10, 1)]), (177, [(0, 1), (1, 1), (2, 1)]), (178, [(0, 1), (1, 1), (2, 1)]), (207, [(0, 2), (2, 5), (7, 1)]), (208, [(0, 2), (2, 5), (7, 1)]), (213, [(0, 1), (1, 1), (2, 1)]), (214, [(0, 1), (1, 1), (2, 1)]), (215, [(0, 3), (3, 3), (6, 3), (9, 3), (12, 3), (15, 3), (18, 3), (21, 3)]), (216, [(0, 1), (1, 1), (2, 24)]), (217, [(0, 1), (1, 1), (2, 24)]), (235, [(0, 1), (1, 1), (2, 1), (3, 1)]), (236, [(0, 1), (1, 1), (2, 1), (3, 1)]), (237, [(0, 1)]), (238, [(0, 1)]), (240, [(0, 1)]), (241, [(0, 1)]), (247, [(0, 1), (1, 5)]), (248, [(0, 1), (1, 5)]), (251, [(0, 1), (1, 1), (2, 1), (3, 1), (4, 1), (5, 6), (11, 1)]), (252, [(0, 1), (1, 1), (2, 1), (3, 1), (4, 1), (5, 6), (11, 1)]), (272, [(0, 1), (1, 1), (2, 1)]), (273, [(0, 1), (1, 1), (2, 1)]), (296, [(0, 1), (1, 1), (2, 1)]), (297, [(0, 1), (1, 1), (2, 1)]), (301, [(0, 2), (2, 1)]), (302, [(0, 2), (2, 1)]), (313, [(0, 1), (1, 1), (2, 1)]), (314, [(0, 1), (1, 1), (2, 1)]), (316, [(0, 1), (1, 1), (2, 1)]), (317, [(0, 1), (1, 1), (2, 1)]), (319, [(0, 1), (1, 1), (2, 1), (3, 1), (4, 1), (5, 1)]), (320, [(0, 1), (1, 1), (2, 1), (3, 1), (4, 1), (5, 1)]), (321, [(0, 1), (1, 1)]), (322, [(0, 1), (1, 1)]), (324, [(0, 1), (1, 1), (2, 1), (3, 1)]), (325, [(0, 1), (1, 1), (2, 1), (3, 1)]), (326, [(0, 1), (1, 1), (2, 1), (3, 1), (4, 1), (5, 1), (6, 1), (7, 1), (8, 1), (9, 1), (10, 1), (11, 1), (12, 1), (13, 1), (14, 1), (15, 1), (16, 1), (17, 1), (18, 1), (19, 1), (20, 1), (21, 1), (22, 1), (23, 1), (24, 1), (25, 1), (26, 1), (27, 1), (28, 1), (29, 1), (30, 1), (31, 1)]), (327, [(0, 4), (4, 1), (5, 32)]), (328, [(0, 4), (4, 1), (5, 32)]), (330, [(0, 1), (1, 5)]), (331, [(0, 1), (1, 5)]), (337, [(0, 1), (1, 1), (2, 1)]), (344, [(0, 1), (1, 1), (2, 1), (3, 1), (4, 1), (5, 1), (6, 1), (7, 1), (8, 1)]), (349, [(0, 1), (1, 11), (12, 6)]), (350, [(0, 1), (1, 11), (12, 6)]), (363, [(0, 1), (1, 1)]), (364, [(0, 1), (1, 1)]), (366, [(0, 1), (1, 1), (2, 1), (3, 1), (4, 1), (5, 1)]), (367, [(0, 1), (1, 1), (2, 1), (3, 1), (4, 1), (5, 1)]), (369, [(0, 1), (1, 1), (2, 1), (3, 1), (4, 6)]), (370, [(0, 1), (1, 1), (2, 1), (3, 1), (4, 6)]), (376, [(0, 1), (1, 1), (2, 1), (3, 1), (4, 1), (5, 1), (6, 1), (7, 1), (8, 1)]), (444, [(0, 1), (1, 1), (2, 1), (3, 1)]), (445, [(0, 1), (1, 1), (2, 1), (3, 1)]), (448, [(0, 1), (1, 1), (2, 1), (3, 1)]), (451, [(0, 1), (1, 1), (2, 1), (3, 1), (4, 1), (5, 1)])]
 infs := [(3, 1, 8), (4, 1, 1), (5, 1, 1), (24, 4, 48), (33, 2, 16), (53, 1, 8), (54, 1, 24), (57, 6, 48), (59, 11, 104), (63, 5, 56), (82, 8, 80), (83, 1, 24), (92, 3, 24), (95, 1, 24), (99, 11, 96), (109, 12, 128), (126, 25, 360), (141, 1, 8), (153, 3, 40), (173, 1, 8), (178, 3, 24), (214, 3, 24), (248, 6, 64), (273, 3, 24), (302, 3, 24), (325, 4, 16), (328, 37, 56), (331, 6, 64), (337, 3, 24), (367, 6, 40), (448, 4, 16)]
theorem tab_ok : TabOk Tryz.prog tab where
 offs := allP ⟨fo, fo, fo, fo, fo, fo, fo, fo, fo, fo, fo, fo, fo, fo, fo, fo, fo, fo, fo, fo, fo, fo, fo, fo, fo, fo, fo, fo, fo, fo, fo, fo, fo, fo, fo, fo, fo, fo, fo, fo, fo, fo, fo, fo, fo, fo, fo, fo, fo, fo, fo, fo, fo, fo, fo, fo, fo, fo, fo, fo, fo, fo, fo, fo, fo, fo, fo, fo, fo, fo, fo, fo, fo, fo, fo, fo, fo, fo, fo, fo, fo, fo, fo, fo, fo, fo, fo, fo, fo, fo, fo, fo, fo, fo, fo, fo, fo, fo, fo, fo, fo, fo, fo, fo, fo, fo, fo, fo, fo, fo, fo, fo, fo, fo, fo, fo, fo, fo, fo, fo, fo, fo, fo, fo, fo, fo, fo, fo, fo, fo, fo, fo, fo, fo, fo, fo, fo, fo, fo, fo, fo, fo, fo, fo, fo, fo, fo, fo, fo, fo, fo, fo, fo, fo, fo, fo, fo, fo, fo, fo, fo, fo, fo, fo, fo, fo, fo, fo, fo, fo, fo, fo, fo, fo, fo, fo, trivial⟩
 tys := allP ⟨⟨Tryz.isAgg1, Tryz.sizeOf1⟩, ⟨Tryz.isAgg2, Tryz.sizeOf2⟩, ⟨Tryz.isAgg3, Tryz.sizeOf3⟩, ⟨Tryz.isAgg4, Tryz.sizeOf4⟩, ⟨Tryz.isAgg5, Tryz.sizeOf5⟩, ⟨Tryz.isAgg9, Tryz.sizeOf9⟩, ⟨Tryz.isAgg12, Tryz.sizeOf12⟩, ⟨Tryz.isAgg13, Tryz.sizeOf13⟩, ⟨Tryz.isAgg20, Tryz.sizeOf20⟩, ⟨Tryz.isAgg21, Tryz.sizeOf21⟩, ⟨Tryz.isAgg22, Tryz.sizeOf22⟩, ⟨Tryz.isAgg23, Tryz.sizeOf23⟩, ⟨Tryz.isAgg24, Tryz.sizeOf24⟩, ⟨Tryz.isAgg25, Tryz.sizeOf25⟩, ⟨Tryz.isAgg26, Tryz.sizeOf26⟩, ⟨Tryz.isAgg27, Tryz.sizeOf27⟩, ⟨Tryz.isAgg28, Tryz.sizeOf28⟩, ⟨Tryz.isAgg30, Tryz.sizeOf30⟩, ⟨Tryz.isAgg31, Tryz.sizeOf31⟩, ⟨Tryz.isAgg32, Tryz.sizeOf32⟩, ⟨Tryz.isAgg33, Tryz.sizeOf33⟩, ⟨Tryz.isAgg35, Tryz.sizeOf35⟩, ⟨Tryz.isAgg36, Tryz.sizeOf36⟩, ⟨Tryz.isAgg37, Tryz.sizeOf37⟩, ⟨Tryz.isAgg38, Tryz.sizeOf38⟩, ⟨Tryz.isAgg39, Tryz.sizeOf39⟩, ⟨Tryz.isAgg40, Tryz.sizeOf40⟩, ⟨Tryz.isAgg41, Tryz.sizeOf41⟩, ⟨Tryz.isAgg42, Tryz.sizeOf42⟩, ⟨Tryz.isAgg43, Tryz.sizeOf43⟩, ⟨Tryz.isAgg44, Tryz.sizeOf44⟩, ⟨Tryz.isAgg45, Tryz.sizeOf45⟩, ⟨Tryz.isAgg46, Tryz.sizeOf46⟩, ⟨Tryz.isAgg47, Tryz.sizeOf47⟩, ⟨Tryz.isAgg48, Tryz.sizeOf48⟩, ⟨Tryz.isAgg49, Tryz.sizeOf49⟩, ⟨Tryz.isAgg50, Tryz.sizeOf50⟩, ⟨Tryz.isAgg51, Tryz.sizeOf51⟩, ⟨Tryz.isAgg52, Tryz.sizeOf52⟩, ⟨Tryz.isAgg53, Tryz.sizeOf53⟩, ⟨Tryz.isAgg54, Tryz.sizeOf54⟩, ⟨Tryz.isAgg55, Tryz.sizeOf55⟩, ⟨Tryz.isAgg56, Tryz.sizeOf56⟩, ⟨Tryz.isAgg57, Tryz.sizeOf57⟩, ⟨Tryz.isAgg58, Tryz.sizeOf58⟩, ⟨Tryz.isAgg59, Tryz.sizeOf59⟩, ⟨Tryz.isAgg60, Tryz.sizeOf60⟩, ⟨Tryz.isAgg61, Tryz.sizeOf61⟩, ⟨Tryz.isAgg62, Tryz.sizeOf62⟩, ⟨Tryz.isAgg63, Tryz.sizeOf63⟩, ⟨Tryz.isAgg64, Tryz.sizeOf64⟩, ⟨Tryz.isAgg65, Tryz.sizeOf65⟩, ⟨Tryz.isAgg66, Tryz.sizeOf66⟩, ⟨Tryz.isAgg67, Tryz.sizeOf67⟩, ⟨Tryz.isAgg68, Tryz.sizeOf68⟩, ⟨Tryz.isAgg69, Tryz.sizeOf69⟩, ⟨Tryz.isAgg70, Tryz.sizeOf70⟩, ⟨Tryz.isAgg72, Tryz.sizeOf72⟩, ⟨Tryz.isAgg73, Tryz.sizeOf73⟩, ⟨Tryz.isAgg74, Tryz.sizeOf74⟩, ⟨Tryz.isAgg75, Tryz.sizeOf75⟩, ⟨Tryz.isAgg76, Tryz.sizeOf76⟩, ⟨Tryz.isAgg77, Tryz.sizeOf77⟩, ⟨Tryz.isAgg78, Tryz.sizeOf78⟩, ⟨Tryz.isAgg79, Tryz.sizeOf79⟩, ⟨Tryz.isAgg80, Tryz.sizeOf80⟩, ⟨Tryz.isAgg81, Tryz.sizeOf81⟩, ⟨Tryz.isAgg82, Tryz.sizeOf82⟩, ⟨Tryz.isAgg83, Tryz.sizeOf83⟩, ⟨Tryz.isAgg84, Tryz.sizeOf84⟩, ⟨Tryz.isAgg85, Tryz.sizeOf85⟩, ⟨Tryz.isAgg86, Tryz.sizeOf86⟩, ⟨Tryz.isAgg87, Tryz.sizeOf87⟩, ⟨Tryz.isAgg88, Tryz.sizeOf88⟩, ⟨Tryz.isAgg90, Tryz.sizeOf90⟩, ⟨Tryz.isAgg91, Tryz.sizeOf91⟩, ⟨Tryz.isAgg92, Tryz.sizeOf92⟩, ⟨Tryz.isAgg93, Tryz.sizeOf93⟩, ⟨Tryz.isAgg94, Tryz.sizeOf94⟩, ⟨Tryz.isAgg95, Tryz.sizeOf95⟩, ⟨Tryz.isAgg97, Tryz.sizeOf97⟩, ⟨Tryz.isAgg98, Tryz.sizeOf98⟩, ⟨Tryz.isAgg99, Tryz.sizeOf99⟩, ⟨Tryz.isAgg100, Tryz.sizeOf100⟩, ⟨Tryz.isAgg101, Tryz.sizeOf101⟩, ⟨Tryz.isAgg102, Tryz.sizeOf102⟩, ⟨Tryz.isAgg103, Tryz.sizeOf103⟩, ⟨Tryz.isAgg104, Tryz.sizeOf104⟩, ⟨Tryz.isAgg105, Tryz.sizeOf105⟩, ⟨Tryz.isAgg106, Tryz.sizeOf106⟩, ⟨Tryz.isAgg107, Tryz.sizeOf107⟩, ⟨Tryz.isAgg108, Tryz.sizeOf108⟩, ⟨Tryz.isAgg109, Tryz.sizeOf109⟩, ⟨Tryz.isAgg110, Tryz.sizeOf110⟩, ⟨Tryz.isAgg111, Tryz.sizeOf111⟩, ⟨Tryz.isAgg112, Tryz.sizeOf112⟩, ⟨Tryz.isAgg113, Tryz.sizeOf113⟩, ⟨Tryz.isAgg114, Tryz.sizeOf114⟩, ⟨Tryz.isAgg115, Tryz.sizeOf115⟩, ⟨Tryz.isAgg116, Tryz.sizeOf116⟩, ⟨Tryz.isAgg117, Tryz.sizeOf117⟩, ⟨Tryz.isAgg118, Tryz.sizeOf118⟩, ⟨Tryz.isAgg119, Tryz.sizeOf119⟩, ⟨Tryz.isAgg120, Tryz.sizeOf120⟩, ⟨Tryz.isAgg121, Tryz.sizeOf121⟩, ⟨Tryz.isAgg122, Tryz.sizeOf122⟩, ⟨Tryz.isAgg123, Tryz.sizeOf123⟩, ⟨Tryz.isAgg124, Tryz.sizeOf124⟩, ⟨Tryz.isAgg125, Tryz.sizeOf125⟩, ⟨Tryz.isAgg126, Tryz.sizeOf126⟩, ⟨Tryz.isAgg127, Tryz.sizeOf127⟩, ⟨Tryz.isAgg128, Tryz.sizeOf128⟩, ⟨Tryz.isAgg129, Tryz.sizeOf129⟩, ⟨Tryz.isAgg131, Tryz.sizeOf131⟩, ⟨Tryz.isAgg132, Tryz.sizeOf132⟩, ⟨Tryz.isAgg133, Tryz.sizeOf133⟩, ⟨Tryz.isAgg134, Tryz.sizeOf134⟩, ⟨Tryz.isAgg135, Tryz.sizeOf135⟩, ⟨Tryz.isAgg136, Tryz.sizeOf136⟩, ⟨Tryz.isAgg137, Tryz.sizeOf137⟩, ⟨Tryz.isAgg138, Tryz.sizeOf138⟩, ⟨Tryz.isAgg140, Tryz.sizeOf140⟩, ⟨Tryz.isAgg141, Tryz.sizeOf141⟩, ⟨Tryz.isAgg143, Tryz.sizeOf143⟩, ⟨Tryz.isAgg144, Tryz.sizeOf144⟩, ⟨Tryz.isAgg145, Tryz.sizeOf145⟩, ⟨Tryz.isAgg146, Tryz.sizeOf146⟩, ⟨Tryz.isAgg147, Tryz.sizeOf147⟩, ⟨Tryz.isAgg148, Tryz.sizeOf148⟩, ⟨Tryz.isAgg149, Tryz.sizeOf149⟩, ⟨Tryz.isAgg150, Tryz.sizeOf150⟩, ⟨Tryz.isAgg151, Tryz.sizeOf151⟩, ⟨Tryz.isAgg152, Tryz.sizeOf152⟩, ⟨Tryz.isAgg153, Tryz.sizeOf153⟩, ⟨Tryz.isAgg154, Tryz.sizeOf154⟩, ⟨Tryz.isAgg155, Tryz.sizeOf155⟩, ⟨Tryz.isAgg156, Tryz.sizeOf156⟩, ⟨Tryz.isAgg157, Tryz.sizeOf157⟩, ⟨Tryz.isAgg158, Tryz.sizeOf158⟩, ⟨Tryz.isAgg159, Tryz.sizeOf159⟩, ⟨Tryz.isAgg160, Tryz.sizeOf160⟩, ⟨Tryz.isAgg161, Tryz.sizeOf161⟩, ⟨Tryz.isAgg162, Tryz.sizeOf162⟩, ⟨Tryz.isAgg164, Tryz.sizeOf164⟩, ⟨Tryz.isAgg165, Tryz.sizeOf165⟩, ⟨Tryz.isAgg167, Tryz.sizeOf167⟩, ⟨Tryz.isAgg169, Tryz.sizeOf169⟩, ⟨Tryz.isAgg170, Tryz.sizeOf170⟩, ⟨Tryz.isAgg172, Tryz.sizeOf172⟩, ⟨Tryz.isAgg173, Tryz.sizeOf173⟩, ⟨Tryz.isAgg174, Tryz.sizeOf174⟩, ⟨Tryz.isAgg175, Tryz.sizeOf175⟩, ⟨Tryz.isAgg176, Tryz.sizeOf176⟩, ⟨Tryz.isAgg177, Tryz.sizeOf177⟩, ⟨Tryz.isAgg178, Tryz.sizeOf178⟩, ⟨Tryz.isAgg179, Tryz.sizeOf179⟩, ⟨Tryz.isAgg180, Tryz.sizeOf180⟩, ⟨Tryz.isAgg181, Tryz.sizeOf181⟩, ⟨Tryz.isAgg182, Tryz.sizeOf182⟩, ⟨Tryz.isAgg184, Tryz.sizeOf184⟩, ⟨Tryz.isAgg185, Tryz.sizeOf185⟩, ⟨Tryz.isAgg187, Tryz.sizeOf187⟩, ⟨Tryz.isAgg188, Tryz.sizeOf188⟩, ⟨Tryz.isAgg189, Tryz.sizeOf189⟩, ⟨Tryz.isAgg190, Tryz.sizeOf190⟩, ⟨Tryz.isAgg191, Tryz.sizeOf191⟩, ⟨Tryz.isAgg192, Tryz.sizeOf192⟩, ⟨Tryz.isAgg193, Tryz.sizeOf193⟩, ⟨Tryz.isAgg194, Tryz.sizeOf194⟩, ⟨Tryz.isAgg195, Tryz.sizeOf195⟩, ⟨Tryz.isAgg196, Tryz.sizeOf196⟩, ⟨Tryz.isAgg198, Tryz.sizeOf198⟩, ⟨Tryz.isAgg199, Tryz.sizeOf199⟩, ⟨Tryz.isAgg200, Tryz.sizeOf200⟩, ⟨Tryz.isAgg201, Tryz.sizeOf201⟩, ⟨Tryz.isAgg203, Tryz.sizeOf203⟩, ⟨Tryz.isAgg205, Tryz.sizeOf205⟩, ⟨Tryz.isAgg206, Tryz.sizeOf206⟩, ⟨Tryz.isAgg207, Tryz.sizeOf207⟩, ⟨Tryz.isAgg208, Tryz.sizeOf208⟩, ⟨Tryz.isAgg209, Tryz.sizeOf209⟩, ⟨Tryz.isAgg210, Tryz.sizeOf210⟩, ⟨Tryz.isAgg211, Tryz.sizeOf211⟩, ⟨Tryz.isAgg212, Tryz.sizeOf212⟩, ⟨Tryz.isAgg213, Tryz.sizeOf213⟩, ⟨Tryz.isAgg214, Tryz.sizeOf214⟩, ⟨Tryz.isAgg215, Tryz.sizeOf215⟩, ⟨Tryz.isAgg216, Tryz.sizeOf216⟩, ⟨Tryz.isAgg217, Tryz.sizeOf217⟩, ⟨Tryz.isAgg218, Tryz.sizeOf218⟩, ⟨Tryz.isAgg219, Tryz.sizeOf219⟩, ⟨Tryz.isAgg220, Tryz.sizeOf220⟩, ⟨Tryz.isAgg221, Tryz.sizeOf221⟩, ⟨Tryz.isAgg222, Tryz.sizeOf222⟩, ⟨Tryz.isAgg223, Tryz.sizeOf223⟩, ⟨Tryz.isAgg224, Tryz.sizeOf224⟩, ⟨Tryz.isAgg225, Tryz.sizeOf225⟩, ⟨Tryz.isAgg227, Tryz.sizeOf227⟩, ⟨Tryz.isAgg229, Tryz.sizeOf229⟩, ⟨Tryz.isAgg230, Tryz.sizeOf230⟩, ⟨Tryz.isAgg231, Tryz.sizeOf231⟩, ⟨Tryz.isAgg232, Tryz.sizeOf232⟩, ⟨Tryz.isAgg233, Tryz.sizeOf233⟩, ⟨Tryz.isAgg234, Tryz.sizeOf234⟩, ⟨Tryz.isAgg235, Tryz.sizeOf235⟩, ⟨Tryz.isAgg236, Tryz.sizeOf236⟩, ⟨Tryz.isAgg237, Tryz.sizeOf237⟩, ⟨Tryz.isAgg238, Tryz.sizeOf238⟩, ⟨Tryz.isAgg239, Tryz.sizeOf239⟩, ⟨Tryz.isAgg240, Tryz.sizeOf240⟩, ⟨Tryz.isAgg241, Tryz.sizeOf241⟩, ⟨Tryz.isAgg243, Tryz.sizeOf243⟩, ⟨Tryz.isAgg244, Tryz.sizeOf244⟩, ⟨Tryz.isAgg246, Tryz.sizeOf246⟩, ⟨Tryz.isAgg247, Tryz.sizeOf247⟩, ⟨Tryz.isAgg248, Tryz.sizeOf248⟩, ⟨Tryz.isAgg249, Tryz.sizeOf249⟩, ⟨Tryz.isAgg250, Tryz.sizeOf250⟩, ⟨Tryz.isAgg251, Tryz.sizeOf251⟩, ⟨Tryz.isAgg252, Tryz.sizeOf252⟩, ⟨Tryz.isAgg253, Tryz.sizeOf253⟩, ⟨Tryz.isAgg254, Tryz.sizeOf254⟩, ⟨Tryz.isAgg255, Tryz.sizeOf255⟩, ⟨Tryz.isAgg256, Tryz.sizeOf256⟩, ⟨Tryz.isAgg257, Tryz.sizeOf257⟩, ⟨Tryz.isAgg258, Tryz.sizeOf258⟩, ⟨Tryz.isAgg260, Tryz.sizeOf260⟩, ⟨Tryz.isAgg261, Tryz.sizeOf261⟩, ⟨Tryz.isAgg262, Tryz.sizeOf262⟩, ⟨Tryz.isAgg264, Tryz.sizeOf264⟩, ⟨Tryz.isAgg265, Tryz.sizeOf265⟩, ⟨Tryz.isAgg267, Tryz.sizeOf267⟩, ⟨Tryz.isAgg268, Tryz.sizeOf268⟩, ⟨Tryz.isAgg269, Tryz.sizeOf269⟩, ⟨Tryz.isAgg270, Tryz.sizeOf270⟩, ⟨Tryz.isAgg271, Tryz.sizeOf271⟩, ⟨Tryz.isAgg272, Tryz.sizeOf272⟩, ⟨Tryz.isAgg273, Tryz.sizeOf273⟩, ⟨Tryz.isAgg275, Tryz.sizeOf275⟩, ⟨Tryz.isAgg276, Tryz.sizeOf276⟩, ⟨Tryz.isAgg277, Tryz.sizeOf277⟩, ⟨Tryz.isAgg278, Tryz.sizeOf278⟩, ⟨Tryz.isAgg279, Tryz.sizeOf279⟩, ⟨Tryz.isAgg280, Tryz.sizeOf280⟩, ⟨Tryz.isAgg281, Tryz.sizeOf281⟩, ⟨Tryz.isAgg283, Tryz.sizeOf283⟩, ⟨Tryz.isAgg284, Tryz.sizeOf284⟩, ⟨Tryz.isAgg285, Tryz.sizeOf285⟩, ⟨Tryz.isAgg286, Tryz.sizeOf286⟩, ⟨Tryz.isAgg287, Tryz.sizeOf287⟩, ⟨Tryz.isAgg289, Tryz.sizeOf289⟩, ⟨Tryz.isAgg291, Tryz.sizeOf291⟩, ⟨Tryz.isAgg292, Tryz.sizeOf292⟩, ⟨Tryz.isAgg294, Tryz.sizeOf294⟩, ⟨Tryz.isAgg295, Tryz.sizeOf295⟩, ⟨Tryz.isAgg296, Tryz.sizeOf296⟩, ⟨Tryz.isAgg297, Tryz.sizeOf297⟩, ⟨Tryz.isAgg298, Tryz.sizeOf298⟩, ⟨Tryz.isAgg299, Tryz.sizeOf299⟩, ⟨Tryz.isAgg300, Tryz.sizeOf300⟩, ⟨Tryz.isAgg301, Tryz.sizeOf301⟩, ⟨Tryz.isAgg302, Tryz.sizeOf302⟩, ⟨Tryz.isAgg303, Tryz.sizeOf303⟩, ⟨Tryz.isAgg304, Tryz.sizeOf304⟩, ⟨Tryz.isAgg305, Tryz.sizeOf305⟩, ⟨Tryz.isAgg306, Tryz.sizeOf306⟩, ⟨Tryz.isAgg307, Tryz.sizeOf307⟩, ⟨Tryz.isAgg308, Tryz.sizeOf308⟩, ⟨Tryz.isAgg309, Tryz.sizeOf309⟩, ⟨Tryz.isAgg310, Tryz.sizeOf310⟩, ⟨Tryz.isAgg311, Tryz.sizeOf311⟩, ⟨Tryz.isAgg312, Tryz.sizeOf312⟩, ⟨Tryz.isAgg313, Tryz.sizeOf313⟩, ⟨Tryz.isAgg314, Tryz.sizeOf314⟩, ⟨Tryz.isAgg315, Tryz.sizeOf315⟩, ⟨Tryz.isAgg316, Tryz.sizeOf316⟩, ⟨Tryz.isAgg317, Tryz.sizeOf317⟩, ⟨Tryz.isAgg318, Tryz.sizeOf318⟩, ⟨Tryz.isAgg319, Tryz.sizeOf319⟩, ⟨Tryz.isAgg320, Tryz.sizeOf320⟩, ⟨Tryz.isAgg321, Tryz.sizeOf321⟩, ⟨Tryz.isAgg322, Tryz.sizeOf322⟩, ⟨Tryz.isAgg323, Tryz.sizeOf323⟩, ⟨Tryz.isAgg324, Tryz.sizeOf324⟩, ⟨Tryz.isAgg325, Tryz.sizeOf325⟩, ⟨Tryz.isAgg326, Tryz.sizeOf326⟩, ⟨Tryz.isAgg327, Tryz.sizeOf327⟩, ⟨Tryz.isAgg328, Tryz.sizeOf328⟩, ⟨Tryz.isAgg329, Tryz.sizeOf329⟩, ⟨Tryz.isAgg330, Tryz.sizeOf330⟩, ⟨Tryz.isAgg331, Tryz.sizeOf331⟩, ⟨Tryz.isAgg332, Tryz.sizeOf332⟩, ⟨Tryz.isAgg333, Tryz.sizeOf333⟩, ⟨Tryz.isAgg335, Tryz.sizeOf335⟩, ⟨Tryz.isAgg336, Tryz.sizeOf336⟩, ⟨Tryz.isAgg337, Tryz.sizeOf337⟩, ⟨Tryz.isAgg338, Tryz.sizeOf338⟩, ⟨Tryz.isAgg339, Tryz.sizeOf339⟩, ⟨Tryz.isAgg340, Tryz.sizeOf340⟩, ⟨Tryz.isAgg341, Tryz.sizeOf341⟩, ⟨Tryz.isAgg342, Tryz.sizeOf342⟩, ⟨Tryz.isAgg343, Tryz.sizeOf343⟩, ⟨Tryz.isAgg344, Tryz.sizeOf344⟩, ⟨Tryz.isAgg345, Tryz.sizeOf345⟩, ⟨Tryz.isAgg347, Tryz.sizeOf347⟩, ⟨Tryz.isAgg348, Tryz.sizeOf348⟩, ⟨Tryz.isAgg349, Tryz.sizeOf349⟩, ⟨Tryz.isAgg350, Tryz.sizeOf350⟩, ⟨Tryz.isAgg351, Tryz.sizeOf351⟩, ⟨Tryz.isAgg352, Tryz.sizeOf352⟩, ⟨Tryz.isAgg355, Tryz.sizeOf355⟩, ⟨Tryz.isAgg356, Tryz.sizeOf356⟩, ⟨Tryz.isAgg358, Tryz.sizeOf358⟩, ⟨Tryz.isAgg359, Tryz.sizeOf359⟩, ⟨Tryz.isAgg360, Tryz.sizeOf360⟩, ⟨Tryz.isAgg361, Tryz.sizeOf361⟩, ⟨Tryz.isAgg362, Tryz.sizeOf362⟩, ⟨Tryz.isAgg363, Tryz.sizeOf363⟩, ⟨Tryz.isAgg364, Tryz.sizeOf364⟩, ⟨Tryz.isAgg365, Tryz.sizeOf365⟩, ⟨Tryz.isAgg366, Tryz.sizeOf366⟩, ⟨Tryz.isAgg367, Tryz.sizeOf367⟩, ⟨Tryz.isAgg368, Tryz.sizeOf368⟩, ⟨Tryz.isAgg369, Tryz.sizeOf369⟩, ⟨Tryz.isAgg370, Tryz.sizeOf370⟩, ⟨Tryz.isAgg372, Tryz.sizeOf372⟩, ⟨Tryz.isAgg373, Tryz.sizeOf373⟩, ⟨Tryz.isAgg374, Tryz.sizeOf374⟩, ⟨Tryz.isAgg375, Tryz.sizeOf375⟩, ⟨Tryz.isAgg376, Tryz.sizeOf376⟩, ⟨Tryz.isAgg377, Tryz.sizeOf377⟩, ⟨Tryz.isAgg378, Tryz.sizeOf378⟩, ⟨Tryz.isAgg379, Tryz.sizeOf379⟩, ⟨Tryz.isAgg380, Tryz.sizeOf380⟩, ⟨Tryz.isAgg381, Tryz.sizeOf381⟩, ⟨Tryz.isAgg382, Tryz.sizeOf382⟩, ⟨Tryz.isAgg383, Tryz.sizeOf383⟩, ⟨Tryz.isAgg384, Tryz.sizeOf384⟩, ⟨Tryz.isAgg385, Tryz.sizeOf385⟩, ⟨Tryz.isAgg386, Tryz.sizeOf386⟩, ⟨Tryz.isAgg387, Tryz.sizeOf387⟩, ⟨Tryz.isAgg388, Tryz.sizeOf388⟩, ⟨Tryz.isAgg389, Tryz.sizeOf389⟩, ⟨Tryz.isAgg390, Tryz.sizeOf390⟩, ⟨Tryz.isAgg391, Tryz.sizeOf391⟩, ⟨Tryz.isAgg392, Tryz.sizeOf392⟩, ⟨Tryz.isAgg393, Tryz.sizeOf393⟩, ⟨Tryz.isAgg394, Tryz.sizeOf394⟩, ⟨Tryz.isAgg396, Tryz.sizeOf396⟩, ⟨Tryz.isAgg397, Tryz.sizeOf397⟩, ⟨Tryz.isAgg399, Tryz.sizeOf399⟩, ⟨Tryz.isAgg400, Tryz.sizeOf400⟩, ⟨Tryz.isAgg401, Tryz.sizeOf401⟩, ⟨Tryz.isAgg402, Tryz.sizeOf402⟩, ⟨Tryz.isAgg403, Tryz.sizeOf403⟩, ⟨Tryz.isAgg405, Tryz.sizeOf405⟩, ⟨Tryz.isAgg406, Tryz.sizeOf406⟩, ⟨Tryz.isAgg407, Tryz.sizeOf407⟩, ⟨Tryz.isAgg408, Tryz.sizeOf408⟩, ⟨Tryz.isAgg409, Tryz.sizeOf409⟩, ⟨Tryz.isAgg410, Tryz.sizeOf410⟩, ⟨Tryz.isAgg411, Tryz.sizeOf411⟩, ⟨Tryz.isAgg412, Tryz.sizeOf412⟩, ⟨Tryz.isAgg413, Tryz.sizeOf413⟩, ⟨Tryz.isAgg414, Tryz.sizeOf414⟩, ⟨Tryz.isAgg416, Tryz.sizeOf416⟩, ⟨Tryz.isAgg417, Tryz.sizeOf417⟩, ⟨Tryz.isAgg419, Tryz.sizeOf419⟩, ⟨Tryz.isAgg421, Tryz.sizeOf421⟩, ⟨Tryz.isAgg422, Tryz.sizeOf422⟩, ⟨Tryz.isAgg423, Tryz.sizeOf423⟩, ⟨Tryz.isAgg424, Tryz.sizeOf424⟩, ⟨Tryz.isAgg425, Tryz.sizeOf425⟩, ⟨Tryz.isAgg426, Tryz.sizeOf426⟩, ⟨Tryz.isAgg427, Tryz.sizeOf427⟩, ⟨Tryz.isAgg428, Tryz.sizeOf428⟩, ⟨Tryz.isAgg429, Tryz.sizeOf429⟩, ⟨Tryz.isAgg430, Tryz.sizeOf430⟩, ⟨Tryz.isAgg431, Tryz.sizeOf431⟩, ⟨Tryz.isAgg432, Tryz.sizeOf432⟩, ⟨Tryz.isAgg433, Tryz.sizeOf433⟩, ⟨Tryz.isAgg434, Tryz.sizeOf434⟩, ⟨Tryz.isAgg435, Tryz.sizeOf435⟩, ⟨Tryz.isAgg437, Tryz.sizeOf437⟩, ⟨Tryz.isAgg438, Tryz.sizeOf438⟩, ⟨Tryz.isAgg439, Tryz.sizeOf439⟩, ⟨Tryz.isAgg440, Tryz.sizeOf440⟩, ⟨Tryz.isAgg441, Tryz.sizeOf441⟩, ⟨Tryz.isAgg442, Tryz.sizeOf442⟩, ⟨Tryz.isAgg443, Tryz.sizeOf443⟩, ⟨Tryz.isAgg444, Tryz.sizeOf444⟩, ⟨Tryz.isAgg445, Tryz.sizeOf445⟩, ⟨Tryz.isAgg446, Tryz.sizeOf446⟩, ⟨Tryz.isAgg447, Tryz.sizeOf447⟩, ⟨Tryz.isAgg448, Tryz.sizeOf448⟩, ⟨Tryz.isAgg449, Tryz.sizeOf449⟩, ⟨Tryz.isAgg450, Tryz.sizeOf450⟩, ⟨Tryz.isAgg451, Tryz.sizeOf451⟩, ⟨Tryz.isAgg453, Tryz.sizeOf453⟩, ⟨Tryz.isAgg454, Tryz.sizeOf454⟩, ⟨Tryz.isAgg456, Tryz.sizeOf456⟩, ⟨Tryz.isAgg457, Tryz.sizeOf457⟩, ⟨Tryz.isAgg458, Tryz.sizeOf458⟩, ⟨Tryz.isAgg459, Tryz.sizeOf459⟩, ⟨Tryz.isAgg460, Tryz.sizeOf460⟩, ⟨Tryz.isAgg461, Tryz.sizeOf461⟩, ⟨Tryz.isAgg462, Tryz.sizeOf462⟩, ⟨Tryz.isAgg463, Tryz.sizeOf463⟩, ⟨Tryz.isAgg464, Tryz.sizeOf464⟩, ⟨Tryz.isAgg466, Tryz.sizeOf466⟩, ⟨Tryz.isAgg467, Tryz.sizeOf467⟩, ⟨Tryz.isAgg468, Tryz.sizeOf468⟩, ⟨Tryz.isAgg469, Tryz.sizeOf469⟩, ⟨Tryz.isAgg470, Tryz.sizeOf470⟩, ⟨Tryz.isAgg471, Tryz.sizeOf471⟩, ⟨Tryz.isAgg472, Tryz.sizeOf472⟩, ⟨Tryz.isAgg480, Tryz.sizeOf480⟩, ⟨Tryz.isAgg481, Tryz.sizeOf481⟩, ⟨Tryz.isAgg486, Tryz.sizeOf486⟩, trivial⟩
 zeros := allP ⟨Tryz.zeroValue1, Tryz.zeroValue2, Tryz.zeroValue3, Tryz.zeroValue4, Tryz.zeroValue5, Tryz.zeroValue9, Tryz.zeroValue12, Tryz.zeroValue13, Tryz.zeroValue20, Tryz.zeroValue21, Tryz.zeroValue22, Tryz.zeroValue23, Tryz.zeroValue24, Tryz.zeroValue25, Tryz.zeroValue26, Tryz.zeroValue27, Tryz.zeroValue28, Tryz.zeroValue30, Tryz.zeroValue31, Tryz.zeroValue32, Tryz.zeroValue33, Tryz.zeroValue35, Tryz.zeroValue36, Tryz.zeroValue37, Tryz.zeroValue38, Tryz.zeroValue39, Tryz.zeroValue40, Tryz.zeroValue41, Tryz.zeroValue42, Tryz.zeroValue43, Tryz.zeroValue44, Tryz.zeroValue45, Tryz.zeroValue46, Tryz.zeroValue47, Tryz.zeroValue48, Tryz.zeroValue49, Tryz.zeroValue50, Tryz.zeroValue51, Tryz.zeroValue52, Tryz.zeroValue53, Tryz.zeroValue54, Tryz.zeroValue55, Tryz.zeroValue56, Tryz.zeroValue57, Tryz.zeroValue58, Tryz.zeroValue59, Tryz.zeroValue60, Tryz.zeroValue61, Tryz.zeroValue62, Tryz.zeroValue63, Tryz.zeroValue64, Tryz.zeroValue65, Tryz.zeroValue66, Tryz.zeroValue67, Tryz.zeroValue68, Tryz.zeroValue69, Tryz.zeroValue70, Tryz.zeroValue72, Tryz.zeroValue73, Tryz.zeroValue74, Tryz.zeroValue75, Tryz.zeroValue76, Tryz.zeroValue77, Tryz.zeroValue78, Tryz.zeroValue79, Tryz.zeroValue80, Tryz.zeroValue81, Tryz.zeroValue82, Tryz.zeroValue83, Tryz.zeroValue84, Tryz.zeroValue85, Tryz.zeroValue86, Tryz.zeroValue87, Tryz.zeroValue88, Tryz.zeroValue90, Tryz.zeroValue91, Tryz.zeroValue92, Tryz.zeroValue93, Tryz.zeroValue94, Tryz.zeroValue95, Tryz.zeroValue97, Tryz.zeroValue98, Tryz.zeroValue99, Tryz.zeroValue100, Tryz.zeroValue101, Tryz.zeroValue102, Tryz.zeroValue103, Tryz.zeroValue104, Tryz.zeroValue105, Tryz.zeroValue106, Tryz.zeroValue107, Tryz.zeroValue108, Tryz.zeroValue109, Tryz.zeroValue110, Tryz.zeroValue111, Tryz.zeroValue112, Tryz.zeroValue113, Tryz.zeroValue114, Tryz.zeroValue115, Tryz.zeroValue116, Tryz.zeroValue117, Tryz.zeroValue118, Tryz.zeroValue119, Tryz.zeroValue120, Tryz.zeroValue121, Tryz.zeroValue122, Tryz.zeroValue123, Tryz.zeroValue124, Tryz.zeroValue125, Tryz.zeroValue126, Tryz.zeroValue127, Tryz.zeroValue128, Tryz.zeroValue129, Tryz.zeroValue131, Tryz.zeroValue132, Tryz.zeroValue133, Tryz.zeroValue134, Tryz.zeroValue135, Tryz.zeroValue136, Tryz.zeroValue137, Tryz.zeroValue138, Tryz.zeroValue140, Tryz.zeroValue141, Tryz.zeroValue143, Tryz.zeroValue144, Tryz.zeroValue145, Tryz.zeroValue146, Tryz.zeroValue147, Tryz.zeroValue148, Tryz.zeroValue149, Tryz.zeroValue150, Tryz.zeroValue151, Tryz.zeroValue152, Tryz.zeroValue153, Tryz.zeroValue154, Tryz.zeroValue155, Tryz.zeroValue156, Tryz.zeroValue157, Tryz.zeroValue158, Tryz.zeroValue159, Tryz.zeroValue160, Tryz.zeroValue161, Tryz.zeroValue162, Tryz.zeroValue164, Tryz.zeroValue165, Tryz.zeroValue167, Tryz.zeroValue169, Tryz.zeroValue170, Tryz.zeroValue172, Tryz.zeroValue173, Tryz.zeroValue174, Tryz.zeroValue175, Tryz.zeroValue176, Tryz.zeroValue177, Tryz.zeroValue178, Tryz.zeroValue179, Tryz.zeroValue180, Tryz.zeroValue181, Tryz.zeroValue182, Tryz.zeroValue184, Tryz.zeroValue185, Tryz.zeroValue187, Tryz.zeroValue188, Tryz.zeroValue189, Tryz.zeroValue190, Tryz.zeroValue191, Tryz.zeroValue192, Tryz.zeroValue193, Tryz.zeroValue194, Tryz.zeroValue195, Tryz.zeroValue196, Tryz.zeroValue198, Tryz.zeroValue199, Tryz.zeroValue200, Tryz.zeroValue201, Tryz.zeroValue203, Tryz.zeroValue205, Tryz.zeroValue206, Tryz.zeroValue207, Tryz.zeroValue208, Tryz.zeroValue209, Tryz.zeroValue210, Tryz.zeroValue211, Tryz.zeroValue212, Tryz.zeroValue213, Tryz.zeroValue214, Tryz.zeroValue215, Tryz.zeroValue216, Tryz.zeroValue217, Tryz.zeroValue218, Tryz.zeroValue219, Tryz.zeroValue220, Tryz.zeroValue221, Tryz.zeroValue222, Tryz.zeroValue223, Tryz.zeroValue224, Tryz.zeroValue225, Tryz.zeroValue227, Tryz.zeroValue229, Tryz.zeroValue230, Tryz.zeroValue231, Tryz.zeroValue232, Tryz.zeroValue233, Tryz.zeroValue234, Tryz.zeroValue235, Tryz.zeroValue236, Tryz.zeroValue237, Tryz.zeroValue238, Tryz.zeroValue239, Tryz.zeroValue240, Tryz.zeroValue241, Tryz.zeroValue243, Tryz.zeroValue244, Tryz.zeroValue246, Tryz.zeroValue247, Tryz.zeroValue248, Tryz.zeroValue249, Tryz.zeroValue250, Tryz.zeroValue251, Tryz.zeroValue252, Tryz.zeroValue253, Tryz.zeroValue254, Tryz.zeroValue255, Tryz.zeroValue256, Tryz.zeroValue257, Tryz.zeroValue258, Tryz.zeroValue260, Tryz.zeroValue261, Tryz.zeroValue262, Tryz.zeroValue264, Tryz.zeroValue265, Tryz.zeroValue267, Tryz.zeroValue268, Tryz.zeroValue269, Tryz.zeroValue270, Tryz.zeroValue271, Tryz.zeroValue272, Tryz.zeroValue273, Tryz.zeroValue275, Tryz.zeroValue276, Tryz.zeroValue277, Tryz.zeroValue278, Tryz.zeroValue279, Tryz.zeroValue280, Tryz.zeroValue281, Tryz.zeroValue283, Tryz.zeroValue284, Tryz.zeroValue285, Tryz.zeroValue286, Tryz.zeroValue287, Tryz.zeroValue289, Tryz.zeroValue291, Tryz.zeroValue292, Tryz.zeroValue294, Tryz.zeroValue295, Tryz.zeroValue296, Tryz.zeroValue297, Tryz.zeroValue298, Tryz.zeroValue299, Tryz.zeroValue300, Tryz.zeroValue301, Tryz.zeroValue302, Tryz.zeroValue303, Tryz.zeroValue304, Tryz.zeroValue305, Tryz.zeroValue306, Tryz.zeroValue307, Tryz.zeroValue308, Tryz.zeroValue309, Tryz.zeroValue310, Tryz.zeroValue311, Tryz.zeroValue312, Tryz.zeroValue313, Tryz.zeroValue314, Tryz.zeroValue315, Tryz.zeroValue316, Tryz.zeroValue317, Tryz.zeroValue318, Tryz.zeroValue319, Tryz.zeroValue320, Tryz.zeroValue321, Tryz.zeroValue322, Tryz.zeroValue323, Tryz.zeroValue324, Tryz.zeroValue325, Tryz.zeroValue326, Tryz.zeroValue327, Tryz.zeroValue328, Tryz.zeroValue329, Tryz.zeroValue330, Tryz.zeroValue331, Tryz.zeroValue332, Tryz.zeroValue333, Tryz.zeroValue335, Tryz.zeroValue336, Tryz.zeroValue337, Tryz.zeroValue338, Tryz.zeroValue339, Tryz.zeroValue340, Tryz.zeroValue341, Tryz.zeroValue342, Tryz.zeroValue343, Tryz.zeroValue344, Tryz.zeroValue345, Tryz.zeroValue347, Tryz.zeroValue348, Tryz.zeroValue349, Tryz.zeroValue350, Tryz.zeroValue351, Tryz.zeroValue352, Tryz.zeroValue355, Tryz.zeroValue356, Tryz.zeroValue358, Tryz.zeroValue359, Tryz.zeroValue360, Tryz.zeroValue361, Tryz.zeroValue362, Tryz.zeroValue363, Tryz.zeroValue364, Tryz.zeroValue365, Tryz.zeroValue366, Tryz.zeroValue367, Tryz.zeroValue368, Tryz.zeroValue369, Tryz.zeroValue370, Tryz.zeroValue372, Tryz.zeroValue373, Tryz.zeroValue374, Tryz.zeroValue375, Tryz.zeroValue376, Tryz.zeroValue377, Tryz.zeroValue378, Tryz.zeroValue379, Tryz.zeroValue380, Tryz.zeroValue381, Tryz.zeroValue382, Tryz.zeroValue383, Tryz.zeroValue384, Tryz.zeroValue385, Tryz.zeroValue386, Tryz.zeroValue387, Tryz.zeroValue388, Tryz.zeroValue389, Tryz.zeroValue390, Tryz.zeroValue391, Tryz.zeroValue393, Tryz.zeroValue394, Tryz.zeroValue396, Tryz.zeroValue397, Tryz.zeroValue399, Tryz.zeroValue400, Tryz.zeroValue401, Tryz.zeroValue402, Tryz.zeroValue403, Tryz.zeroValue405, Tryz.zeroValue406, Tryz.zeroValue407, Tryz.zeroValue408, Tryz.zeroValue409, Tryz.zeroValue410, Tryz.zeroValue411, Tryz.zeroValue412, Tryz.zeroValue413, Tryz.zeroValue414, Tryz.zeroValue416, Tryz.zeroValue417, Tryz.zeroValue419, Tryz.zeroValue421, Tryz.zeroValue422, Tryz.zeroValue423, Tryz.zeroValue424, Tryz.zeroValue425, Tryz.zeroValue426, Tryz.zeroValue427, Tryz.zeroValue428, Tryz.zeroValue429, Tryz.zeroValue430, Tryz.zeroValue431, Tryz.zeroValue432, Tryz.zeroValue433, Tryz.zeroValue434, Tryz.zeroValue435, Tryz.zeroValue437, Tryz.zeroValue438, Tryz.zeroValue439, Tryz.zeroValue440, Tryz.zeroValue441, Tryz.zeroValue442, Tryz.zeroValue443, Tryz.zeroValue444, Tryz.zeroValue445, Tryz.zeroValue446, Tryz.zeroValue447, Tryz.zeroValue448, Tryz.zeroValue449, Tryz.zeroValue450, Tryz.zeroValue451, Tryz.zeroValue453, Tryz.zeroValue454, Tryz.zeroValue456, Tryz.zeroValue457, Tryz.zeroValue458, Tryz.zeroValue459, Tryz.zeroValue460, Tryz.zeroValue461, Tryz.zeroValue462, Tryz.zeroValue463, Tryz.zeroValue464, Tryz.zeroValue466, Tryz.zeroValue467, Tryz.zeroValue468, Tryz.zeroValue469, Tryz.zeroValue470, Tryz.zeroValue471, Tryz.zeroValue472, Tryz.zeroValue480, Tryz.zeroValue481, Tryz.zeroValue486, trivial⟩
 sls := allP ⟨Tryz.underlying22, Tryz.underlying26, Tryz.underlying43, Tryz.underlying46, Tryz.underlying49, Tryz.underlying54, Tryz.underlying66, Tryz.underlying67, Tryz.underlying74, Tryz.underlying79, Tryz.underlying83, Tryz.underlying86, Tryz.underlying94, Tryz.underlying95, Tryz.underlying106, Tryz.underlying111, Tryz.underlying114, Tryz.underlying117, Tryz.underlying118, Tryz.underlying134, Tryz.underlying151, Tryz.underlying160, Tryz.underlying223, Tryz.underlying239, Tryz.underlying311, Tryz.underlying315, Tryz.underlying318, Tryz.underlying401, Tryz.underlying413, Tryz.underlying443, Tryz.underlying454, trivial⟩
 ars := allP ⟨Tryz.underlying215, Tryz.underlying326, Tryz.underlying344, Tryz.underlying376, Tryz.underlying392, Tryz.underlying451, trivial⟩
 ints := allP ⟨Tryz.underlying2, Tryz.underlying3, Tryz.underlying5, Tryz.underlying12, Tryz.underlying21, Tryz.underlying28, Tryz.underlying53, Tryz.underlying55, Tryz.underlying308, Tryz.underlying310, Tryz.underlying435, Tryz.underlying459, trivial⟩
 strs := allP ⟨Tryz.underlying9, trivial⟩
 bools := allP ⟨Tryz.underlying4, trivial⟩
 ptrs := allP ⟨Tryz.underlying27, Tryz.underlying39, Tryz.underlying70, Tryz.underlying75, Tryz.underlying133, Tryz.underlying141, Tryz.underlying157, Tryz.underlying158, Tryz.underlying159, Tryz.underlying170, Tryz.underlying173, Tryz.underlying175, Tryz.underlying244, Tryz.underlying249, Tryz.underlying295, Tryz.underlying305, Tryz.underlying385, Tryz.underlying424, Tryz.underlying426, Tryz.underlying433, Tryz.underlying462, Tryz.underlying469, Tryz.underlying481, trivial⟩
 flds := allP ⟨.inl ⟨_, Tryz.underlying13, fun w => by simp⟩, .inl ⟨_, Tryz.underlying23, fun w => by simp⟩, .inl ⟨_, Tryz.underlying24, fun w => by simp⟩, .inl ⟨_, Tryz.underlying32, fun w => by simp⟩, .inl ⟨_, Tryz.underlying33, fun w => by simp⟩, .inl ⟨_, Tryz.underlying44, fun w => by simp⟩, .inl ⟨_, Tryz.underlying45, fun w => by simp⟩, .inl ⟨_, Tryz.underlying47, fun w => by simp⟩, .inl ⟨_, Tryz.underlying48, fun w => by simp⟩, .inl ⟨_, Tryz.underlying50, fun w => by simp⟩, .inl ⟨_, Tryz.underlying51, fun w => by simp⟩, .inl ⟨_, Tryz.underlying56, fun w => by simp⟩, .inl ⟨_, Tryz.underlying57, fun w => by simp⟩, .inl ⟨_, Tryz.underlying58, fun w => by simp⟩, .inl ⟨_, Tryz.underlying59, fun w => by simp⟩, .inl ⟨_, Tryz.underlying62, fun w => by simp⟩, .inl ⟨_, Tryz.underlying63, fun w => by simp⟩, .inl ⟨_, Tryz.underlying77, fun w => by simp⟩, .inl ⟨_, Tryz.underlying78, fun w => by simp⟩, .inl ⟨_, Tryz.underlying81, fun w => by simp⟩, .inl ⟨_, Tryz.underlying82, fun w => by simp⟩, .inl ⟨_, Tryz.underlying91, fun w => by simp⟩, .inl ⟨_, Tryz.underlying92, fun w => by simp⟩, .inl ⟨_, Tryz.underlying98, fun w => by simp⟩, .inl ⟨_, Tryz.underlying99, fun w => by simp⟩, .inl ⟨_, Tryz.underlying108, fun w => by simp⟩, .inl ⟨_, Tryz.underlying109, fun w => by simp⟩, .inl ⟨_, Tryz.underlying112, fun w => by simp⟩, .inl ⟨_, Tryz.underlying113, fun w => by simp⟩, .inl ⟨_, Tryz.underlying115, fun w => by simp⟩, .inl ⟨_, Tryz.underlying116, fun w => by simp⟩, .inl ⟨_, Tryz.underlying119, fun w => by simp⟩, .inl ⟨_, Tryz.underlying120, fun w => by simp⟩, .inl ⟨_, Tryz.underlying121, fun w => by simp⟩, .inl ⟨_, Tryz.underlying122, fun w => by simp⟩, .inl ⟨_, Tryz.underlying123, fun w => by simp⟩, .inl ⟨_, Tryz.underlying124, fun w => by simp⟩, .inl ⟨_, Tryz.underlying125, fun w => by simp⟩, .inl ⟨_, Tryz.underlying126, fun w => by simp⟩, .inl ⟨_, Tryz.underlying135, fun w => by simp⟩, .inl ⟨_, Tryz.underlying136, fun w => by simp⟩, .inl ⟨_, Tryz.underlying137, fun w => by simp⟩, .inl ⟨_, Tryz.underlying138, fun w => by simp⟩, .inl ⟨_, Tryz.underlying152, fun w => by simp⟩, .inl ⟨_, Tryz.underlying153, fun w => by simp⟩, .inl ⟨_, Tryz.underlying155, fun w => by simp⟩, .inl ⟨_, Tryz.underlying156, fun w => by simp⟩, .inl ⟨_, Tryz.underlying161, fun w => by simp⟩, .inl ⟨_, Tryz.underlying162, fun w => by simp⟩, .inl ⟨_, Tryz.underlying177, fun w => by simp⟩, .inl ⟨_, Tryz.underlying178, fun w => by simp⟩, .inl ⟨_, Tryz.underlying207, fun w => by simp⟩, .inl ⟨_, Tryz.underlying208, fun w => by simp⟩, .inl ⟨_, Tryz.underlying213, fun w => by simp⟩, .inl ⟨_, Tryz.underlying214, fun w => by simp⟩, .inr ⟨_, _, _, Tryz.underlying215, Tryz.sizeOf214, rfl⟩, .inl ⟨_, Tryz.underlying216, fun w => by simp⟩, .inl ⟨_, Tryz.underlying217, fun w => by simp⟩, .inl ⟨_, Tryz.underlying235, fun w => by simp⟩, .inl ⟨_, Tryz.underlying236, fun w => by simp⟩, .inl ⟨_, Tryz.underlying237, fun w => by simp⟩, .inl ⟨_, Tryz.underlying238, fun w => by simp⟩, .inl ⟨_, Tryz.underlying240, fun w => by simp⟩, .inl ⟨_, Tryz.underlying241, fun w => by simp⟩, .inl ⟨_, Tryz.underlying247, fun w => by simp⟩, .inl ⟨_, Tryz.underlying248, fun w => by simp⟩, .inl ⟨_, Tryz.underlying251, fun w => by simp⟩, .inl ⟨_, Tryz.underlying252, fun w => by simp⟩, .inl ⟨_, Tryz.underlying272, fun w => by simp⟩, .inl ⟨_, Tryz.underlying273, fun w => by simp⟩, .inl ⟨_, Tryz.underlying296, fun w => by simp⟩, .inl ⟨_, Tryz.underlying297, fun w => by simp⟩, .inl ⟨_, Tryz.underlying301, fun w => by simp⟩, .inl ⟨_, Tryz.underlying302, fun w => by simp⟩, .inl ⟨_, Tryz.underlying313, fun w => by simp⟩, .inl ⟨_, Tryz.underlying314, fun w => by simp⟩, .inl ⟨_, Tryz.underlying316, fun w => by simp⟩, .inl ⟨_, Tryz.underlying317, fun w => by simp⟩, .inl ⟨_, Tryz.underlying319, fun w => by simp⟩, .inl ⟨_, Tryz.underlying320, fun w => by simp⟩, .inl ⟨_, Tryz.underlying321, fun w => by simp⟩, .inl ⟨_, Tryz.underlying322, fun w => by simp⟩, .inl ⟨_, Tryz.underlying324, fun w => by simp⟩, .inl ⟨_, Tryz.underlying325, fun w => by simp⟩, .inr ⟨_, _, _, Tryz.underlying326, Tryz.sizeOf5, rfl⟩, .inl ⟨_, Tryz.underlying327, fun w => by simp⟩, .inl ⟨_, Tryz.underlying328, fun w => by simp⟩, .inl ⟨_, Tryz.underlying330, fun w => by simp⟩, .inl ⟨_, Tryz.underlying331, fun w => by simp⟩, .inl ⟨_, Tryz.underlying337, fun w => by simp⟩, .inr ⟨_, _, _, Tryz.underlying344, Tryz.sizeOf190, rfl⟩, .inl ⟨_, Tryz.underlying349, fun w => by simp⟩, .inl ⟨_, Tryz.underlying350, fun w => by simp⟩, .inl ⟨_, Tryz.underlying363, fun w => by simp⟩, .inl ⟨_, Tryz.underlying364, fun w => by simp⟩, .inl ⟨_, Tryz.underlying366, fun w => by simp⟩, .inl ⟨_, Tryz.underlying367, fun w => by simp⟩, .inl ⟨_, Tryz.underlying369, fun w => by simp⟩, .inl ⟨_, Tryz.underlying370, fun w => by simp⟩, .inr ⟨_, _, _, Tryz.underlying376, Tryz.sizeOf9, rfl⟩, .inl ⟨_, Tryz.underlying444, fun w => by simp⟩, .inl ⟨_, Tryz.underlying445, fun w => by simp⟩, .inl ⟨_, Tryz.underlying448, fun w => by simp⟩, .inr ⟨_, _, _, Tryz.underlying451, Tryz.sizeOf424, rfl⟩, trivial⟩
 infs := allP ⟨⟨Tryz.t3, _, rfl, rfl, rfl, rfl, rfl, by decide⟩, ⟨Tryz.t4, _, rfl, rfl, rfl, rfl, rfl, by decide⟩, ⟨Tryz.t5, _, rfl, rfl, rfl, rfl, rfl, by decide⟩, ⟨Tryz.t24, _, rfl, rfl, rfl, rfl, rfl, by decide⟩, ⟨Tryz.t33, _, rfl, rfl, rfl, rfl, rfl, by decide⟩, ⟨Tryz.t53, _, rfl, rfl, rfl, rfl, rfl, by decide⟩, ⟨Tryz.t54, _, rfl, rfl, rfl, rfl, rfl, by decide⟩, ⟨Tryz.t57, _, rfl, rfl, rfl, rfl, rfl, by decide⟩, ⟨Tryz.t59, _, rfl, rfl, rfl, rfl, rfl, by decide⟩, ⟨Tryz.t63, _, rfl, rfl, rfl, rfl, rfl, by decide⟩, ⟨Tryz.t82, _, rfl, rfl, rfl, rfl, rfl, by decide⟩, ⟨Tryz.t83, _, rfl, rfl, rfl, rfl, rfl, by decide⟩, ⟨Tryz.t92, _, rfl, rfl, rfl, rfl, rfl, by decide⟩, ⟨Tryz.t95, _, rfl, rfl, rfl, rfl, rfl, by decide⟩, ⟨Tryz.t99, _, rfl, rfl, rfl, rfl, rfl, by decide⟩, ⟨Tryz.t109, _, rfl, rfl, rfl, rfl, rfl, by decide⟩, ⟨Tryz.t126, _, rfl, rfl, rfl, rfl, rfl, by decide⟩, ⟨Tryz.t141, _, rfl, rfl, rfl, rfl, rfl, by decide⟩, ⟨Tryz.t153, _, rfl, rfl, rfl, rfl, rfl, by decide⟩, ⟨Tryz.t173, _, rfl, rfl, rfl, rfl, rfl, by decide⟩, ⟨Tryz.t178, _, rfl, rfl, rfl, rfl, rfl, by decide⟩, ⟨Tryz.t214, _, rfl, rfl, rfl, rfl, rfl, by decide⟩, ⟨Tryz.t248, _, rfl, rfl, rfl, rfl, rfl, by decide⟩, ⟨Tryz.t273, _, rfl, rfl, rfl, rfl, rfl, by decide⟩, ⟨Tryz.t302, _, rfl, rfl, rfl, rfl, rfl, by decide⟩, ⟨Tryz.t325, _, rfl, rfl, rfl, rfl, rfl, by decide⟩, ⟨Tryz.t328, _, rfl, rfl, rfl, rfl, rfl, by decide⟩, ⟨Tryz.t331, _, rfl, rfl, rfl, rfl, rfl, by decide⟩, ⟨Tryz.t337, _, rfl, rfl, rfl, rfl, rfl, by decide⟩, ⟨Tryz.t367, _, rfl, rfl, rfl, rfl, rfl, by decide⟩, ⟨Tryz.t448, _, rfl, rfl, rfl, rfl, rfl, by decide⟩, trivial⟩
theorem follows : Tryz.prog.follows .mixedOrders = true := by kernel_rfl
end Go.Proofs.YtfpghdcjdnifcaaGreat
namespace Go.Sl
set_option linter.unusedVariables false
open Go
section
variable {P : Program} {R : HL} {cx : Cx} {ops : Array Oper} {E F : Nat → Bool} {Kf : Act → List HL → Prop}
def acts (P : Program) (o : Oper) (a : Act) (w : World) (N : Act → World → Prop) : Prop :=
 (∃ v w', (execOp a.eval o).run P w = .ok (.value v) w' ∧ N (a.put o.dst v) w') ∨ (∃ w', (execOp a.eval o).run P w = .ok .skip w' ∧ N (a.put o.dst undef) w') ∨
 ∃ f args w', (execOp a.eval o).run P w = .ok (.enter f args) w' ∧ Calls P f args w' fun e w'' => ∃ v, e = .returned v ∧ N (a.put o.dst v) w''
theorem acts_of_same {o : Oper} {a a' : Act} {w : World} {N N' : Act → World → Prop} (he : execOp a'.eval o = execOp a.eval o) (h : ∀ v w', N (a.put o.dst v) w' → N' (a'.put o.dst v) w') (hh : acts P o a w N) : acts P o a' w N' := by
 unfold acts at *
 rw [he]
 rcases hh with ⟨v, w', hr, hn⟩ | ⟨w', hr, hn⟩ | ⟨f, args, w', hr, hn⟩
 · exact .inl ⟨v, w', hr, h _ _ hn⟩
 · exact .inr (.inl ⟨w', hr, h _ _ hn⟩)
 · exact .inr (.inr ⟨f, args, w', hr, hn.mono fun e w'' ⟨v, he, hn⟩ => ⟨v, he, h _ _ hn⟩⟩)
theorem acts_mono {o : Oper} {a : Act} {w : World} {N N' : Act → World → Prop} (h : ∀ v w, N (a.put o.dst v) w → N' (a.put o.dst v) w) (hh : acts P o a w N) : acts P o a w N' := acts_of_same rfl h hh
theorem acts_some {o : Oper} {a : Act} {w : World} {N : Act → World → Prop} (hh : acts P o a w N) : ∃ v w', N (a.put o.dst v) w' := by
 rcases hh with ⟨v, w', hr, hn⟩ | ⟨w', hr, hn⟩ | ⟨f, args, w', hr, hn⟩
 · exact ⟨_, _, hn⟩
 · exact ⟨_, _, hn⟩
 ·
  obtain ⟨e, w'', fr, ⟨v, _, hn⟩, _⟩ := hn []
  exact ⟨_, _, hn⟩
theorem acts_wp {o : Oper} {a : Act} {w : World} {N : Act → World → Prop} {Q : Exit → Act → World → Prop} (hh : acts P o a w N) : o.wp P a w N Q := by
 unfold Oper.wp
 rcases hh with ⟨v, w', hr, hn⟩ | ⟨w', hr, hn⟩ | ⟨f, args, w', hr, hn⟩
 · rw [hr]; exact hn
 · rw [hr]; exact hn
 · rw [hr]; exact hn.mono fun e w'' ⟨v, he, hn⟩ => by subst he; exact hn
def Lf (Y Y' : List HL) (w w' : World) : Prop := w.heap.size ≤ w'.heap.size ∧ (∀ b, b < w.heap.size → b ∉ ids Y.flatten → w'.heap[b]? = w.heap[b]?) ∧ ∀ b ∈ ids Y'.flatten, b ∈ ids Y.flatten ∨ w.heap.size ≤ b
def qacts (P : Program) (o : Oper) (a : Act) (w : World) (v : Value) (N : World → Prop) : Prop :=
 (∃ w', (execOp a.eval o).run P w = .ok (.value v) w' ∧ N w') ∨ ∃ f args w', (execOp a.eval o).run P w = .ok (.enter f args) w' ∧ P.inits.idxOf? f = none ∧ Calls P f args w' fun e w'' => e = .returned v ∧ N w''
theorem qacts_wp {o : Oper} {a : Act} {w : World} {v : Value} {N : World → Prop} {K : Act → World → Prop} {Q : Exit → Act → World → Prop} (hh : qacts P o a w v N) (h : ∀ w', N w' → K (a.put o.dst v) w') : o.wp P a w K Q := by
 unfold Oper.wp
 rcases hh with ⟨w', hr, hn⟩ | ⟨f, args, w', hr, _, hn⟩
 · rw [hr]; exact h _ hn
 · rw [hr]; exact hn.mono fun e w'' ⟨he, hn⟩ => by subst he; exact h _ hn
theorem qacts_agree {o : Oper} {a : Act} {w : World} {v v' : Value} {N N' : World → Prop} (h : qacts P o a w v N) (h' : qacts P o a w v' N') : v = v' := by
 rcases h with ⟨w1, hr, _⟩ | ⟨f, args, w1, hr, hi, hn⟩ <;> rcases h' with ⟨w2, hr', _⟩ | ⟨f', args', w2, hr', _, hn'⟩
 · rw [hr] at hr'; cases hr'; rfl
 · rw [hr] at hr'; cases hr'
 · rw [hr] at hr'; cases hr'
 ·
  rw [hr] at hr'
  cases hr'
  have q1 : Calls P f args w1 fun | .returned u, _ => u = v | _, _ => False := hn.mono fun e w'' ⟨he, _⟩ => by subst he; rfl
  have q2 : Calls P f args w1 fun | .returned u, _ => u = v' | _, _ => False := hn'.mono fun e w'' ⟨he, _⟩ => by subst he; rfl
  obtain ⟨n, u, w3, e1, r1⟩ := q1.done hi
  obtain ⟨m, u', w4, e2, r2⟩ := q2.done hi
  have a1 := runN_ended e1 m
  have a2 := runN_ended e2 n
  rw [Nat.add_comm, a1] at a2
  injection a2 with ho hw
  injection ho with hv
  exact r1.symm.trans (hv.trans r2)
def QVal (P : Program) (R : HL) (cx : Cx) (ops : Array Oper) (o : Oper) (v : Value) (a : Act) : Prop :=
 (Region.wanted o (yielded ops a.tmps) = true ∧ ∀ Y w, St cx.w0 cx.S0 R Y w → qacts P o a w v fun w' => St cx.w0 cx.S0 R Y w' ∧ Lf Y Y w w') ∨ (Region.wanted o (yielded ops a.tmps) = false ∧ v = undef)
theorem Lf.rfl' {Y : List HL} {w : World} : Lf Y Y w w := ⟨Nat.le_refl _, fun _ _ _ => rfl, fun _ h => .inl h⟩
theorem QVal.of_same {o : Oper} {v : Value} {a a' : Act} (h : QVal P R cx ops o v a) (he : execOp a'.eval o = execOp a.eval o) (hw : Region.wanted o (yielded ops a'.tmps) = Region.wanted o (yielded ops a.tmps)) :
  QVal P R cx ops o v a' := by unfold QVal qacts at *; rw [he, hw]; exact h
theorem QVal.unique {o : Oper} {v v' : Value} {a : Act} (h : QVal P R cx ops o v a) (h' : QVal P R cx ops o v' a) {Y : List HL} {w : World} (hs : St cx.w0 cx.S0 R Y w) : v = v' := by
 rcases h with ⟨h1, h2⟩ | ⟨h1, h2⟩ <;> rcases h' with ⟨h3, h4⟩ | ⟨h3, h4⟩
 · exact qacts_agree (h2 Y w hs) (h4 Y w hs)
 · rw [h1] at h3; cases h3
 · rw [h1] at h3; cases h3
 · rw [h2, h4]
def eOp (P : Program) (R : HL) (cx : Cx) (ops : Array Oper) (eff : Bool) (o : Oper) (K : Act → List HL → Prop) (a : Act) (Y : List HL) : Prop :=
 match eff with
 | false => ∃ v, QVal P R cx ops o v a ∧ K (a.put o.dst v) Y
 | true => (Region.wanted o (yielded ops a.tmps) = true ∧ ∀ w, St cx.w0 cx.S0 R Y w → acts P o a w fun a' w' => ∃ Y', (St cx.w0 cx.S0 R Y' w' ∧ Lf Y Y' w w') ∧ K a' Y') ∨
   (Region.wanted o (yielded ops a.tmps) = false ∧ K (a.put o.dst undef) Y)
def SWr (P : Program) (R : HL) (cx : Cx) (ops : Array Oper) (E F : Nat → Bool) (Kf : Act → List HL → Prop) : List Nat → Act → List HL → Prop
 | [] => Kf
 | i :: r => fun a Y => match ops[i]? with
  | none => SWr P R cx ops E F Kf r a Y
  | some o => if F i = true then SWr P R cx ops E F Kf r a Y else eOp P R cx ops (E i) o (SWr P R cx ops E F Kf r) a Y
variable (hsel : ∀ (j : Nat) (o : Oper) cs b, ops[j]? = some o → o.op ≠ .select cs b)
include hsel
theorem extQ {i : Nat} {oi : Oper} (hi : ops[i]? = some oi) (hF : F i = false) (hE : E i = false) : ∀ (A B : List Nat) (a : Act) (Y : List HL) (w : World), (∀ j ∈ A, F j = false → ∀ oj, ops[j]? = some oj → oj.apart ops oi = true) →
  St cx.w0 cx.S0 R Y w → SWr P R cx ops E F Kf (A ++ i :: B) a Y → ∃ v, QVal P R cx ops oi v a ∧ SWr P R cx ops E F Kf (A ++ B) (a.put oi.dst v) Y
 | [], B, a, Y, w, _, _, h => by
  simp only [List.nil_append, SWr, hi, hE, hF, Bool.false_eq_true, if_false, eOp] at h
  exact h
 | j :: A, B, a, Y, w, hap, hs, h => by
  simp only [List.cons_append, SWr] at h ⊢
  cases hj : ops[j]? with
  | none =>
   simp only [hj] at h ⊢
   exact extQ hi hF hE A B a Y w (fun k hk => hap k (by simp [hk])) hs h
  | some oj =>
   simp only [hj] at h ⊢
   have hap' : ∀ k ∈ A, F k = false → ∀ ok, ops[k]? = some ok → ok.apart ops oi = true := fun k hk => hap k (by simp [hk])
   cases hFj : F j with
   | true =>
    simp only [hFj, if_true] at h ⊢
    exact extQ hi hF hE A B a Y w hap' hs h
   | false =>
   simp only [hFj, Bool.false_eq_true, if_false] at h ⊢
   obtain ⟨p1, p2, p3⟩ := Oper.apart_spec (hap j (by simp) hFj oj hj)
   have down : ∀ u v, QVal P R cx ops oi v (a.put oj.dst u) → QVal P R cx ops oi v a := fun u v hq =>
    hq.of_same (execOp_put oi (fun cs b => hsel i oi cs b hi) a oj.dst u p1).symm (wanted_put oi a oj.dst u p1).symm
   have ej : ∀ v, execOp (a.put oi.dst v).eval oj = execOp a.eval oj := fun v => execOp_put oj (fun cs b => hsel j oj cs b hj) a oi.dst v p3
   have wj : ∀ v, Region.wanted oj (yielded ops (a.put oi.dst v).tmps) = Region.wanted oj (yielded ops a.tmps) := fun v => wanted_put oj a oi.dst v p3
   have pc : ∀ u v, (a.put oj.dst u).put oi.dst v = (a.put oi.dst v).put oj.dst u := fun u v => Act.put_comm a u v p2
   cases hEj : E j with
   | false =>
    simp only [hEj, eOp] at h ⊢
    obtain ⟨u, hqu, hK⟩ := h
    obtain ⟨v, hqv, hS⟩ := extQ hi hF hE A B _ Y w hap' hs hK
    exact ⟨v, down u v hqv, u, hqu.of_same (ej v) (wj v), by rw [← pc]; exact hS⟩
   | true =>
    simp only [hEj, eOp] at h ⊢
    rcases h with ⟨hw, hact⟩ | ⟨hw, hK⟩
    ·
     obtain ⟨u, w', Y', hs', hK⟩ := acts_some (hact w hs)
     obtain ⟨v, hqv, _⟩ := extQ hi hF hE A B _ Y' w' hap' hs'.1 hK
     have hqa := down u v hqv
     refine ⟨v, hqa, .inl ⟨by rw [wj]; exact hw, fun w1 hs1 => ?_⟩⟩
     refine acts_of_same (ej v) ?_ (hact w1 hs1)
     rintro u1 w1' ⟨Y1, hs1', hK1⟩
     obtain ⟨v1, hqv1, hS1⟩ := extQ hi hF hE A B _ Y1 w1' hap' hs1'.1 hK1
     have : v1 = v := (down u1 v1 hqv1).unique hqa hs
     subst this
     exact ⟨Y1, hs1', by rw [← pc]; exact hS1⟩
    ·
     obtain ⟨v, hqv, hS⟩ := extQ hi hF hE A B _ Y w hap' hs hK
     exact ⟨v, down undef v hqv, .inr ⟨by rw [wj]; exact hw, by rw [← pc]; exact hS⟩⟩
theorem extE {i : Nat} {oi : Oper} (hi : ops[i]? = some oi) (hF : F i = false) (hE : E i = true) : ∀ (A B : List Nat) (a : Act) (Y : List HL), (∀ j ∈ A, F j = false → E j = false ∧ ∀ oj, ops[j]? = some oj → oj.apart ops oi = true) →
  SWr P R cx ops E F Kf (A ++ i :: B) a Y → eOp P R cx ops true oi (SWr P R cx ops E F Kf (A ++ B)) a Y
 | [], B, a, Y, _, h => by
  simp only [List.nil_append, SWr, hi, hE, hF, Bool.false_eq_true, if_false] at h
  exact h
 | j :: A, B, a, Y, hap, h => by
  simp only [List.cons_append, SWr] at h ⊢
  cases hj : ops[j]? with
  | none =>
   simp only [hj] at h ⊢
   exact extE hi hF hE A B a Y (fun k hk => hap k (by simp [hk])) h
  | some oj =>
   simp only [hj] at h ⊢
   cases hFj : F j with
   | true =>
    simp only [hFj, if_true] at h ⊢
    exact extE hi hF hE A B a Y (fun k hk => hap k (by simp [hk])) h
   | false =>
   simp only [hFj, Bool.false_eq_true, if_false] at h ⊢
   obtain ⟨hEj, hapj⟩ := hap j (by simp) hFj
   obtain ⟨p1, p2, p3⟩ := Oper.apart_spec (hapj oj hj)
   simp only [hEj, eOp] at h ⊢
   obtain ⟨u, hqu, hK⟩ := h
   have ih := extE hi hF hE A B _ Y (fun k hk => hap k (by simp [hk])) hK
   have ei : execOp (a.put oj.dst u).eval oi = execOp a.eval oi := execOp_put oi (fun cs b => hsel i oi cs b hi) a oj.dst u p1
   have wi : Region.wanted oi (yielded ops (a.put oj.dst u).tmps) = Region.wanted oi (yielded ops a.tmps) := wanted_put oi a oj.dst u p1
   have qj : ∀ v, QVal P R cx ops oj u (a.put oi.dst v) := fun v => hqu.of_same (execOp_put oj (fun cs b => hsel j oj cs b hj) a oi.dst v p3) (wanted_put oj a oi.dst v p3)
   have pc : ∀ v, (a.put oj.dst u).put oi.dst v = (a.put oi.dst v).put oj.dst u := fun v => Act.put_comm a u v p2
   simp only [eOp] at ih
   rcases ih with ⟨hw, hact⟩ | ⟨hw, hS⟩
   ·
    refine .inl ⟨by rw [← wi]; exact hw, fun w hs => ?_⟩
    refine acts_of_same ei.symm ?_ (hact w hs)
    rintro v w' ⟨Y', hs', hS⟩
    exact ⟨Y', hs', u, qj v, by rw [← pc]; exact hS⟩
   · exact .inr ⟨by rw [← wi]; exact hw, u, qj undef, by rw [← pc]; exact hS⟩
omit hsel
def maskOf (acc : List Nat) (o : Oper) : Nat := o.after.toList.foldl (fun s e => if Region.binds .any e then s ||| (2 ^ e.on ||| acc.getD e.on 0) else s) 0
def masks : List Oper → List Nat → List Nat
 | [], acc => acc
 | o :: l, acc => masks l (acc ++ [maskOf acc o])
theorem foldl_mask (acc : List Nat) (j : Nat) : ∀ (es : List Edge) (s : Nat), (es.foldl (fun s e => if Region.binds .any e then s ||| (2 ^ e.on ||| acc.getD e.on 0) else s) s).testBit j = true →
  s.testBit j = true ∨ ∃ e ∈ es, Region.binds .any e = true ∧ (e.on = j ∨ (acc.getD e.on 0).testBit j = true)
 | [], s, h => .inl h
 | e :: es, s, h => by
  simp only [List.foldl_cons] at h
  rcases foldl_mask acc j es _ h with h1 | ⟨e', he', h1⟩
  ·
   split at h1
   ·
    rename_i hb
    simp only [Nat.testBit_or, Bool.or_eq_true, Nat.testBit_two_pow, decide_eq_true_eq] at h1
    rcases h1 with h1 | h1 | h1
    · exact .inl h1
    · exact .inr ⟨e, by simp, hb, .inl h1⟩
    · exact .inr ⟨e, by simp, hb, .inr h1⟩
   · exact .inl h1
  · exact .inr ⟨e', by simp [he'], h1⟩
theorem masks_get : ∀ (l : List Oper) (acc : List Nat) (i : Nat) , i < acc.length → (masks l acc)[i]? = acc[i]?
 | [], _, _, _ => rfl
 | o :: l, acc, i, hi => by rw [masks, masks_get l _ i (by simp; omega), List.getElem?_append_left hi]
theorem masks_at : ∀ (l : List Oper) (acc : List Nat) (i : Nat) (o : Oper), l[i]? = some o → ∃ acc' : List Nat, (masks l acc)[acc.length + i]? = some (maskOf acc' o) ∧ ∀ k, k < acc.length + i → acc'[k]? = (masks l acc)[k]?
 | [], _, _, _, h => by simp at h
 | o' :: l, acc, 0, o, h => by
  simp at h
  subst h
  refine ⟨acc, ?_, fun k hk => ?_⟩
  · rw [masks, masks_get _ _ _ (by simp)]; simp
  · rw [masks, masks_get _ _ _ (by simp at hk ⊢; omega), List.getElem?_append_left (by omega)]
 | o' :: l, acc, i + 1, o, h => by
  obtain ⟨acc', h1, h2⟩ := masks_at l (acc ++ [maskOf acc o']) i o (by simpa using h)
  refine ⟨acc', ?_, fun k hk => ?_⟩
  · rw [masks, ← h1]; congr 1; simp; omega
  · rw [masks]; exact h2 k (by simp; omega)
def low (ops : Array Oper) : Bool := (List.range ops.size).all fun i => match ops[i]? with | none => true | some o => o.after.all fun e => !Region.binds .any e || decide (e.on < i)
def waits (ops : Array Oper) (i j : Nat) : Bool := ((masks ops.toList []).getD i 0).testBit j
theorem waits_listed {listed : Array Bool} (hlow : low ops = true) (hdown : ∀ i o, ops[i]? = some o → listed.getD i true = true → ∀ e ∈ o.after, Region.binds .any e = true → listed.getD e.on false = true) :
  ∀ (i j : Nat) (o : Oper), ops[i]? = some o → (∀ e ∈ o.after, Region.binds .any e = true → listed.getD e.on false = true) → waits ops i j = true → listed.getD j false = true := by
 intro i
 induction i using Nat.strongRecOn with
 | _ i ih =>
  intro j o ho hdeps hw
  obtain ⟨acc', h1, h2⟩ := masks_at ops.toList [] i o (by simpa using ho)
  simp only [List.length_nil, Nat.zero_add] at h1 h2
  unfold waits at hw
  rw [List.getD_eq_getElem?_getD, h1] at hw
  simp only [Option.getD_some, maskOf] at hw
  rcases foldl_mask acc' j _ _ hw with h3 | ⟨e, he, hb, h3⟩
  · simp at h3
  ·
   have hem : e ∈ o.after := by simpa using he
   have hl := hdeps e hem hb
   rcases h3 with rfl | h3
   · exact hl
   ·
    have hlt : e.on < i := by
     have := List.all_eq_true.1 hlow i (by simp; exact (Array.getElem?_eq_some_iff.1 ho).1)
     simp only [ho] at this
     have := Array.all_eq_true_iff_forall_mem.1 this e hem
     simpa [hb] using this
    have hon : e.on < ops.size := by have := (Array.getElem?_eq_some_iff.1 ho).1; omega
    have ho2 : ops[e.on]? = some ops[e.on] := Array.getElem?_eq_getElem hon
    have hl2 : listed.getD e.on true = true := by
     simp only [Array.getD_eq_getD_getElem?] at hl ⊢
     cases hx : listed[e.on]? with
     | none => simp
     | some b => rw [hx] at hl; simpa using hl
    refine ih e.on hlt j _ ho2 (hdown e.on _ ho2 hl2) ?_
    unfold waits
    rw [List.getD_eq_getElem?_getD, ← h2 e.on hlt, ← List.getD_eq_getElem?_getD]
    exact h3
def drawB (ops : Array Oper) (E : Nat → Bool) (N : Nat) : Bool :=
 low ops && Region.noSelect ops && decide (N ≤ ops.size) &&
 ((List.range N).all fun i => (List.range i).all fun j => waits ops i j || (match ops[j]?, ops[i]? with | some oj, some oi => oj.apart ops oi && !(E i && E j) | _, _ => false)) &&
 ((List.range ops.size).all fun i => decide (i < N) || (List.range N).all fun j => waits ops i j) &&
 Region.seqB .any ops (ops.size - N) N (((List.replicate N true) ++ (List.replicate (ops.size - N) false)).toArray)
structure Good (ops : Array Oper) (N : Nat) (rem : List Nat) (listed : Array Bool) : Prop where
 sz : listed.size = ops.size
 sorted : rem.Pairwise (· < ·)
 lt : ∀ i ∈ rem, i < N
 un : ∀ i, i < N → (listed.getD i true = false ↔ i ∈ rem)
 tl : ∀ i, N ≤ i → i < ops.size → listed.getD i true = false
 down : ∀ i o, ops[i]? = some o → listed.getD i true = true → ∀ e ∈ o.after, Region.binds .any e = true → listed.getD e.on false = true
theorem getD_tf {listed : Array Bool} {i : Nat} (hi : i < listed.size) (b : Bool) : listed.getD i b = listed[i] := by simp [Array.getD, hi]
inductive Kd | b (e : Bool) | f
def Kd.act : Kd → Bool
 | .b e => e
 | .f => false
def Kd.fl : Kd → Bool
 | .b _ => false
 | .f => true
def putO (a : Act) : List (Nat × Obj) → (Nat → Option Nat) → Act
 | [], _ => a
 | (d, _) :: r, β => match β d with
  | some b => (putO a r β).put (some d) (.pointer (some ⟨b, 0, none⟩))
  | none => putO a r β
def zO : List (Nat × Obj) → (Nat → Option Nat) → HL
 | [], _ => []
 | (d, o) :: r, β => match β d with
  | some b => (b, o) :: zO r β
  | none => zO r β
def putT (a : Act) : List (Nat × Obj) → (Nat → Nat) → Act
 | [], _ => a
 | (d, _) :: r, β => (putT a r β).put (some d) (.pointer (some ⟨β d, 0, none⟩))
def zT : List (Nat × Obj) → (Nat → Nat) → HL
 | [], _ => []
 | (d, o) :: r, β => (β d, o) :: zT r β
theorem putO_exec {o : Oper} (ho : ∀ cs b, o.op ≠ .select cs b) {a : Act} {β : Nat → Option Nat} : ∀ {fl : List (Nat × Obj)}, (∀ q ∈ fl, q.1 ∉ o.looksAt ops) → execOp (putO a fl β).eval o = execOp a.eval o
 | [], _ => rfl
 | (d, _) :: r, h => by
  have ih := putO_exec ho (a := a) (β := β) (fl := r) (fun q hq => h q (by simp [hq]))
  simp only [putO]
  split
  · rw [execOp_put (ops := ops) o ho _ (some d) _ (fun d' hd => by cases hd; exact h _ List.mem_cons_self), ih]
  · exact ih
theorem putO_wanted {o : Oper} {a : Act} {β : Nat → Option Nat} : ∀ {fl : List (Nat × Obj)}, (∀ q ∈ fl, q.1 ∉ o.looksAt ops) → Region.wanted o (yielded ops (putO a fl β).tmps) = Region.wanted o (yielded ops a.tmps)
 | [], _ => rfl
 | (d, _) :: r, h => by
  have ih := putO_wanted (o := o) (a := a) (β := β) (fl := r) (fun q hq => h q (by simp [hq]))
  simp only [putO]
  split
  · rw [wanted_put o _ (some d) _ (fun d' hd => by cases hd; exact h _ List.mem_cons_self), ih]
  · exact ih
theorem putO_put {a : Act} {β : Nat → Option Nat} {dst : Option Nat} {v : Value} : ∀ {fl : List (Nat × Obj)}, (∀ q ∈ fl, dst ≠ some q.1) → (putO a fl β).put dst v = putO (a.put dst v) fl β
 | [], _ => rfl
 | (d, _) :: r, h => by
  have ih := putO_put (a := a) (β := β) (dst := dst) (v := v) (fl := r) (fun q hq => h q (by simp [hq]))
  simp only [putO]
  split
  · rw [Act.put_comm _ _ _ (fun d' hd => by cases hd; exact h _ List.mem_cons_self), ih]
  · exact ih
theorem putO_same {a : Act} {β β' : Nat → Option Nat} : ∀ {fl : List (Nat × Obj)}, (∀ q ∈ fl, β q.1 = β' q.1) → putO a fl β = putO a fl β' ∧ zO fl β = zO fl β'
 | [], _ => ⟨rfl, rfl⟩
 | (d, o) :: r, h => by
  have ih := putO_same (a := a) (β := β) (β' := β') (fl := r) (fun q hq => h q (by simp [hq]))
  have h0 : β d = β' d := h (d, o) (by simp)
  simp only [putO, zO, h0, ih.1, ih.2, and_self]
def setB (β : Nat → Option Nat) (d b : Nat) : Nat → Option Nat := fun k => if k = d then some b else β k
theorem putO_new {a : Act} {β : Nat → Option Nat} {d b : Nat} {o : Obj} : ∀ {fl : List (Nat × Obj)}, (fl.map (·.1)).Nodup → (d, o) ∈ fl → β d = none →
  (putO a fl β).put (some d) (.pointer (some ⟨b, 0, none⟩)) = putO a fl (setB β d b) ∧ (zO fl (setB β d b)).Perm ((b, o) :: zO fl β)
 | [], _, h, _ => by cases h
 | (d', o') :: r, hn, hm, hb => by
  simp only [List.map_cons, List.nodup_cons] at hn
  by_cases hd : d' = d
  ·
   subst hd
   have hr : ∀ q ∈ r, β q.1 = setB β d' b q.1 := fun q hq => by
    unfold setB
    rw [if_neg]
    rintro rfl
    exact hn.1 (List.mem_map_of_mem (f := (·.1)) hq)
   have ho : o' = o := by
    rcases List.mem_cons.1 hm with h | h
    · cases h; rfl
    · exact absurd (List.mem_map_of_mem (f := (·.1)) h) hn.1
   have e := putO_same (a := a) hr
   have e1 : setB β d' b d' = some b := by simp [setB]
   simp only [putO, zO, hb, e1, ← e.1, ← e.2, ho]
   exact ⟨trivial, List.Perm.refl _⟩
  ·
   have hm' : (d, o) ∈ r := by
    rcases List.mem_cons.1 hm with h | h
    · cases h; exact absurd rfl hd
    · exact h
   have ih := putO_new (a := a) (b := b) hn.2 hm' hb
   have e1 : setB β d b d' = β d' := by simp [setB, hd]
   simp only [putO, zO, e1]
   split
   ·
    rw [← ih.1]
    refine ⟨Act.put_comm _ _ _ (fun d2 h2 => by cases h2; intro h3; cases h3; exact hd rfl), ?_⟩
    exact (List.Perm.cons _ ih.2).trans (List.Perm.swap _ _ _)
   · exact ih
theorem putO_all {a : Act} {β : Nat → Option Nat} : ∀ {fl : List (Nat × Obj)}, (∀ q ∈ fl, β q.1 ≠ none) → putO a fl β = putT a fl (fun d => (β d).getD 0) ∧ zO fl β = zT fl (fun d => (β d).getD 0)
 | [], _ => ⟨rfl, rfl⟩
 | (d, o) :: r, h => by
  have ih := putO_all (a := a) (β := β) (fl := r) (fun q hq => h q (by simp [hq]))
  obtain ⟨b, hb⟩ := Option.ne_none_iff_exists'.1 (h (d, o) (by simp))
  simp only [putO, zO, putT, zT, hb, ih.1, ih.2, Option.getD_some, and_self]
theorem putO_none {a : Act} : ∀ {fl : List (Nat × Obj)}, putO a fl (fun _ => none) = a ∧ zO fl (fun _ => none) = []
 | [] => ⟨rfl, rfl⟩
 | (d, o) :: r => by have ih := putO_none (a := a) (fl := r); simp only [putO, zO, ih.1, ih.2, and_self]
theorem St.z {w0 w : World} {S0 : List Nat} {Z : HL} {Y : List HL} (hs : St w0 S0 R (Z :: Y) w) : St w0 S0 R Y w := hs.perm (M := Y) (X := Z) (by simp only [List.flatten_cons]; exact List.perm_append_comm)
theorem St.lf {w0 w w' : World} {S0 : List Nat} {Z : HL} {Y Y' : List HL} (hs : St w0 S0 R (Z :: Y) w) (h' : St w0 S0 R Y' w') (hl : Lf Y Y' w w') : St w0 S0 R (Z :: Y') w' := by
 have hnd : (ids Z ++ ids Y.flatten).Nodup := by have := hs.nd; simpa [ids] using this
 obtain ⟨n1, n2, n3⟩ := List.nodup_append.1 hnd
 have hz : ∀ p ∈ Z, p.1 < w.heap.size ∧ p.1 ∉ ids Y.flatten ∧ w.heap[p.1]? = some p.2 := by
  intro p hp
  have h1 := hs.has p (by simp [hp])
  exact ⟨(Array.getElem?_eq_some_iff.1 h1).1, fun hm => n3 _ (List.mem_map_of_mem (f := (·.1)) hp) _ hm rfl, h1⟩
 refine ⟨?_, ?_, h'.fr, ?_, h'.sz, h'.ro, h'.env⟩
 ·
  intro p hp
  simp only [List.flatten_cons, List.mem_append] at hp
  rcases hp with hp | hp
  ·
   obtain ⟨h1, h2, h3⟩ := hz p hp
   rw [hl.2.1 _ h1 h2]; exact h3
  · exact h'.has p hp
 ·
  simp only [List.flatten_cons, ids, List.map_append]
  refine List.nodup_append.2 ⟨n1, h'.nd, fun x hx y hy e => ?_⟩
  subst e
  obtain ⟨p, hp, rfl⟩ := List.mem_map.1 hx
  obtain ⟨h1, h2, -⟩ := hz p hp
  rcases hl.2.2 _ hy with h | h
  · exact h2 h
  · omega
 ·
  intro b hb
  simp only [List.flatten_cons, ids, List.map_append, List.mem_append] at hb
  rcases hb with hb | hb
  · exact hs.own b (by simp [ids, hb])
  · exact h'.own b hb
structure FlOk (P : Program) (ops : Array Oper) (F : Nat → Bool) (N : Nat) (fl : List (Nat × Obj)) : Prop where
 nd : (fl.map (·.1)).Nodup
 new : ∀ i, i < N → F i = true → ∃ oi d o, ops[i]? = some oi ∧ oi.dst = some d ∧ oi.guard = none ∧ (d, o) ∈ fl ∧ ∀ (a : Act) (w : World), ∃ m, (execOp a.eval oi).run P w = .ok (.value (.pointer (some ⟨w.heap.size, 0, none⟩))) ({ w with drawn := m }.alloc o)
 apart : ∀ i, i < N → F i = false → ∀ oi, ops[i]? = some oi → ∀ q ∈ fl, q.1 ∉ oi.looksAt ops ∧ oi.dst ≠ some q.1
 inj : ∀ i j, i < N → j < N → F i = true → F j = true → ∀ oi oj, ops[i]? = some oi → ops[j]? = some oj → oi.dst = oj.dst → i = j
 all : ∀ q ∈ fl, ∃ i, i < N ∧ F i = true ∧ ∃ oi, ops[i]? = some oi ∧ oi.dst = some q.1
theorem any_of_swr {N : Nat} {Q : Exit → Act → World → Prop} {fl : List (Nat × Obj)} (hfl : FlOk P ops F N fl) (hB : drawB ops E N = true)
  (hK : ∀ a Y β w, Kf a Y → St cx.w0 cx.S0 R (zT fl β :: Y) w → wpList P ops Q (ops.toList.drop N) (putT a fl β) w) : ∀ (m : Nat) (rem : List Nat) (listed : Array Bool) (a : Act) (Y : List HL) (β : Nat → Option Nat) (w : World), rem.length = m → Good ops N rem listed →
   (∀ i, i < N → F i = true → ∀ oi d, ops[i]? = some oi → oi.dst = some d → (i ∈ rem ↔ β d = none)) →
   St cx.w0 cx.S0 R (zO fl β :: Y) w → SWr P R cx ops E F Kf rem a Y → wpAny P .any ops Q (m + (ops.size - N)) listed (putO a fl β) w := by
 simp only [drawB, Bool.and_eq_true, decide_eq_true_eq] at hB
 obtain ⟨⟨⟨⟨⟨hlow, hns⟩, hN⟩, hpair⟩, htail⟩, hseq⟩ := hB
 have hsel := Region.noSelect_spec hns
 intro m
 induction m with
 | zero =>
  intro rem listed a Y β w hm hg hβ hs h
  have hr : rem = [] := List.eq_nil_of_length_eq_zero hm
  subst hr
  have hl : listed = ((List.replicate N true) ++ (List.replicate (ops.size - N) false)).toArray := by
   apply Array.ext
   · simp [hg.sz]; omega
   ·
    intro i h1 h2
    by_cases hi : i < N
    ·
     have := (hg.un i hi)
     rw [getD_tf h1] at this
     simp only [List.not_mem_nil, iff_false, Bool.not_eq_false] at this
     simp [this, hi]
    ·
     have := hg.tl i (by omega) (by rw [← hg.sz]; exact h1)
     rw [getD_tf h1] at this
     simp only [this, List.getElem_toArray]
     rw [List.getElem_append_right (by simp; omega)]
     simp
  have hall := putO_all (a := a) (β := β) (fl := fl) (fun q hq => by
   obtain ⟨i, hi, hFi, oi, ho, hd⟩ := hfl.all q hq
   intro hn
   have := (hβ i hi hFi oi q.1 ho hd).2 hn
   cases this)
  rw [hall.2] at hs
  rw [hall.1]
  have hwl := hK a Y _ w h hs
  have hlen : (ops.toList.drop N).length = ops.size - N := by simp
  have := wpAny_of_seq (md := .any) (Q' := Q) (ops.toList.drop N) N listed _ w (fun j => by simp [List.getElem?_drop]) (by rw [hlen, hl]; exact hseq) hwl
  rw [hlen] at this
  rw [Nat.zero_add]
  exact this
 | succ m ih =>
  intro rem listed a Y β w hm hg hβ hs h
  have hready : ∀ i, i ∈ Region.ready .any ops listed → i ∈ rem := by
   intro i hi
   obtain ⟨h1, o, ho, hdeps⟩ := mem_ready.1 hi
   have hisz := (Array.getElem?_eq_some_iff.1 ho).1
   by_cases hiN : i < N
   · exact (hg.un i hiN).1 h1
   ·
    exfalso
    obtain ⟨j, hj⟩ : ∃ j, j ∈ rem := by cases rem with | nil => simp at hm | cons x r => exact ⟨x, by simp⟩
    have hw := List.all_eq_true.1 htail i (by simpa using hisz)
    simp only [Bool.or_eq_true, decide_eq_true_eq] at hw
    have hw2 := List.all_eq_true.1 (hw.resolve_left hiN) j (by simpa using hg.lt j hj)
    have h3 := waits_listed hlow hg.down i j o ho hdeps hw2
    have h4 := (hg.un j (hg.lt j hj)).2 hj
    have hjs : j < listed.size := by have := hg.lt j hj; have := hg.sz; omega
    rw [getD_tf hjs] at h3 h4
    rw [h3] at h4; cases h4
  rw [show m + 1 + (ops.size - N) = (m + (ops.size - N)) + 1 from by omega]
  refine ⟨fun h0 => ?_, fun i hi => ?_⟩
  ·
   exfalso
   cases rem with
   | nil => simp at hm
   | cons i0 r =>
    have hi0N := hg.lt i0 (by simp)
    have hi0 : i0 < ops.size := by omega
    have : i0 ∈ Region.ready .any ops listed := by
     refine mem_ready.2 ⟨(hg.un i0 hi0N).2 (by simp), ops[i0], Array.getElem?_eq_getElem hi0, fun e he hb => ?_⟩
     have hl := List.all_eq_true.1 hlow i0 (by simpa using hi0)
     simp only [Array.getElem?_eq_getElem hi0] at hl
     have hl2 := Array.all_eq_true_iff_forall_mem.1 hl e he
     simp only [hb, Bool.not_true, Bool.false_or, decide_eq_true_eq] at hl2
     have hnot : e.on ∉ i0 :: r := by
      intro hm'
      rcases List.mem_cons.1 hm' with h' | h'
      · omega
      ·
       have := (List.pairwise_cons.1 hg.sorted).1 e.on h'
       omega
     have h5 := (hg.un e.on (by omega))
     have hes : e.on < listed.size := by rw [hg.sz]; omega
     rw [getD_tf hes] at h5 ⊢
     cases hx : listed[e.on] with
     | true => rfl
     | false => exact absurd (h5.1 hx) hnot
    rw [h0] at this; cases this
  ·
   obtain ⟨h1, oi, hoi, hdeps⟩ := mem_ready.1 hi
   obtain ⟨A, B, hAB⟩ := List.append_of_mem (hready i hi)
   have hiN := hg.lt i (hready i hi)
   have hsz : i < listed.size := by rw [hg.sz]; omega
   have hA : ∀ j ∈ A, j < i ∧ j ∈ rem := by
    intro j hj
    have := hg.sorted
    rw [hAB, List.pairwise_append] at this
    exact ⟨this.2.2 j hj i (by simp), by rw [hAB]; simp [hj]⟩
   have hpr : ∀ j ∈ A, (∀ oj, ops[j]? = some oj → oj.apart ops oi = true) ∧ (E i && E j) = false := by
    intro j hj
    obtain ⟨hji, hjr⟩ := hA j hj
    have hp := List.all_eq_true.1 (List.all_eq_true.1 hpair i (by simpa using hiN)) j (by simpa using hji)
    rcases Bool.or_eq_true _ _ ▸ hp with hp | hp
    ·
     exfalso
     have h3 := waits_listed hlow hg.down i j oi hoi hdeps hp
     have h4 := (hg.un j (hg.lt j hjr)).2 hjr
     have hjs : j < listed.size := by have := hg.lt j hjr; have := hg.sz; omega
     rw [getD_tf hjs] at h3 h4
     rw [h3] at h4; cases h4
    ·
     rw [hoi] at hp
     split at hp
     ·
      rename_i oj oi' hoj hoi'
      cases hoi'
      simp only [Bool.and_eq_true, Bool.not_eq_true'] at hp
      exact ⟨fun oj' ho' => by rw [hoj] at ho'; cases ho'; exact hp.1, hp.2⟩
     · cases hp
   have hg' : Good ops N (A ++ B) (listed.setIfInBounds i true) := by
    have hnd : rem.Nodup := hg.sorted.imp (fun h => by omega)
    refine ⟨by simp [hg.sz], ?_, ?_, ?_, ?_, ?_⟩
    ·
     have := hg.sorted
     rw [hAB] at this
     exact this.sublist (List.Sublist.append (List.Sublist.refl A) (List.sublist_cons_self i B))
    · intro j hj; exact hg.lt j (by rw [hAB]; rcases List.mem_append.1 hj with h | h <;> simp [h])
    ·
     intro j hjN
     have hjs : j < listed.size := by have := hg.sz; omega
     have h5 := hg.un j hjN
     rw [getD_tf hjs] at h5
     rw [getD_tf (by simpa using hjs), Array.getElem_setIfInBounds (by simpa using hjs)]
     by_cases hij : i = j
     ·
      subst hij
      rw [if_pos rfl]
      rw [hAB, List.nodup_append] at hnd
      simp only [Bool.true_eq_false, false_iff, List.mem_append, not_or]
      exact ⟨fun hm => hnd.2.2 i hm i (by simp) rfl, (List.nodup_cons.1 hnd.2.1).1⟩
     ·
      rw [if_neg hij, h5, hAB]
      simp only [List.mem_append, List.mem_cons]
      constructor
      ·
       rintro (h | h | h)
       · exact .inl h
       · exact absurd h.symm hij
       · exact .inr h
      ·
       rintro (h | h)
       · exact .inl h
       · exact .inr (.inr h)
    ·
     intro j hjN hjs
     have hjs' : j < listed.size := by rw [hg.sz]; exact hjs
     have := hg.tl j hjN hjs
     rw [getD_tf hjs'] at this
     rw [getD_tf (by simpa using hjs'), Array.getElem_setIfInBounds (by simpa using hjs'), if_neg (by omega)]
     exact this
    ·
     intro j o ho hlj e he hb
     have hjs : j < listed.size := by rw [hg.sz]; exact (Array.getElem?_eq_some_iff.1 ho).1
     have keep : listed.getD e.on false = true → (listed.setIfInBounds i true).getD e.on false = true := by
      intro hx
      by_cases hes : e.on < listed.size
      ·
       rw [getD_tf hes] at hx
       rw [getD_tf (by simpa using hes), Array.getElem_setIfInBounds (by simpa using hes)]
       split
       · rfl
       · exact hx
      ·
       simp only [Array.getD_eq_getD_getElem?, Array.getElem?_eq_none (Nat.le_of_not_lt hes)] at hx
       simp at hx
     rw [getD_tf (by simpa using hjs), Array.getElem_setIfInBounds (by simpa using hjs)] at hlj
     by_cases hij : i = j
     ·
      subst hij
      rw [hoi] at ho
      cases ho
      exact keep (hdeps e he hb)
     ·
      rw [if_neg hij] at hlj
      exact keep (hg.down j o ho (by rw [getD_tf hjs]; exact hlj) e he hb)
   have hlenAB : (A ++ B).length = m := by rw [hAB] at hm; simp at hm ⊢; omega
   have hnd : rem.Nodup := hg.sorted.imp (fun h => by omega)
   rw [hAB] at h
   unfold wpOp
   rw [hoi]
   cases hFi : F i with
   | true =>
    obtain ⟨oi', d, o, ho', hd, hgu, hmem, hrun⟩ := hfl.new i hiN hFi
    rw [hoi] at ho'
    cases ho'
    have hβd : β d = none := (hβ i hiN hFi oi d hoi hd).1 (by rw [hAB]; simp)
    have hS : SWr P R cx ops E F Kf (A ++ B) a Y := by
     have skip : ∀ (A : List Nat) (a : Act) (Y : List HL), SWr P R cx ops E F Kf (A ++ i :: B) a Y → SWr P R cx ops E F Kf (A ++ B) a Y := by
      intro A
      induction A with
      | nil => intro a Y h; simpa [SWr, hoi, hFi] using h
      | cons j A ihA =>
       intro a Y h
       simp only [List.cons_append, SWr] at h ⊢
       cases hj : ops[j]? with
       | none => simp only [hj] at h ⊢; exact ihA a Y h
       | some oj =>
        simp only [hj] at h ⊢
        split at h
        · rename_i hFj; rw [if_pos hFj]; exact ihA a Y h
        ·
         rename_i hFj
         rw [if_neg hFj]
         cases hEj : E j with
         | false =>
          simp only [hEj, eOp] at h ⊢
          obtain ⟨v, hq, hh⟩ := h
          exact ⟨v, hq, ihA _ _ hh⟩
         | true =>
          simp only [hEj, eOp] at h ⊢
          rcases h with ⟨h1, h2⟩ | ⟨h1, h2⟩
          ·
           refine .inl ⟨h1, fun w hs => acts_mono ?_ (h2 w hs)⟩
           rintro v w' ⟨Y', hs', hh⟩
           exact ⟨Y', hs', ihA _ _ hh⟩
          · exact .inr ⟨h1, ihA _ _ h2⟩
     exact skip A a Y h
    obtain ⟨mm, hr⟩ := hrun (putO a fl β) w
    have hw : Region.wanted oi (yielded ops (putO a fl β).tmps) = true := by simp [Region.wanted, hgu]
    simp only [hw, if_true]
    refine .inl ?_
    unfold Oper.wp
    rw [hr]
    have hnew := putO_new (a := a) (b := w.heap.size) hfl.nd hmem hβd
    show wpAny P .any ops Q (m + (ops.size - N)) (listed.setIfInBounds i true) ((putO a fl β).put oi.dst (.pointer (some ⟨w.heap.size, 0, none⟩))) _
    rw [hd, hnew.1]
    have hs0 : St cx.w0 cx.S0 R (zO fl β :: Y) { w with drawn := mm } := hs.drawn mm
    have hs1 : St cx.w0 cx.S0 R (zO fl (setB β d w.heap.size) :: Y) ({ w with drawn := mm }.alloc o) := by
     refine (hs0.new o).perm (X := []) ?_
     simp only [List.flatten_cons, List.append_nil]
     rw [← List.append_assoc]
     exact List.Perm.append_right _ (by simpa using hnew.2.symm)
    refine ih (A ++ B) _ a Y (setB β d w.heap.size) _ hlenAB hg' ?_ hs1 hS
    intro i' hi' hFi' oi' d' ho' hd'
    by_cases hdd : d' = d
    ·
     subst hdd
     have hii : i' = i := hfl.inj i' i hi' hiN hFi' hFi oi' oi ho' hoi (by rw [hd', hd])
     subst hii
     simp only [setB, if_true, reduceCtorEq, iff_false]
     rw [hAB, List.nodup_append] at hnd
     simp only [List.mem_append, not_or]
     exact ⟨fun hm => hnd.2.2 i' hm i' (by simp) rfl, (List.nodup_cons.1 hnd.2.1).1⟩
    ·
     have hne : i' ≠ i := by rintro rfl; rw [hoi] at ho'; cases ho'; rw [hd] at hd'; cases hd'; exact hdd rfl
     have e1 : setB β d w.heap.size d' = β d' := by simp [setB, hdd]
     rw [e1, ← hβ i' hi' hFi' oi' d' ho' hd', hAB]
     simp [hne]
   | false =>
   have hap := hfl.apart i hiN hFi oi hoi
   have ho1 : ∀ cs b, oi.op ≠ .select cs b := fun cs b => hsel i oi cs b hoi
   have hex := putO_exec ho1 (a := a) (β := β) (fl := fl) (fun q hq => (hap q hq).1)
   have hwa := putO_wanted (o := oi) (a := a) (β := β) (fl := fl) (fun q hq => (hap q hq).1)
   have hpu : ∀ v, (putO a fl β).put oi.dst v = putO (a.put oi.dst v) fl β := fun v => putO_put (fun q hq => (hap q hq).2)
   have hβ' : ∀ i', i' < N → F i' = true → ∀ oi' d', ops[i']? = some oi' → oi'.dst = some d' → (i' ∈ A ++ B ↔ β d' = none) := by
    intro i' hi' hFi' oi' d' ho' hd'
    have hne : i' ≠ i := by rintro rfl; rw [hFi] at hFi'; cases hFi'
    rw [← hβ i' hi' hFi' oi' d' ho' hd', hAB]
    simp [hne]
   cases hE : E i with
   | false =>
    obtain ⟨v, hq, hS⟩ := extQ hsel hoi hFi hE A B a Y w (fun j hj _ => (hpr j hj).1) hs.z h
    rcases hq with ⟨hw, hrun⟩ | ⟨hw, rfl⟩
    ·
     simp only [hwa, hw, if_true]
     have hrun' : qacts P oi (putO a fl β) w v fun w' => St cx.w0 cx.S0 R Y w' ∧ Lf Y Y w w' := by
      have := hrun Y w hs.z
      unfold qacts at this ⊢
      rw [hex]
      exact this
     refine .inl (qacts_wp hrun' ?_)
     rintro w' ⟨hs', hlf⟩
     rw [hpu]
     exact ih (A ++ B) _ (a.put oi.dst v) Y β w' hlenAB hg' hβ' (hs.lf hs' hlf) hS
    ·
     simp only [hwa, hw, Bool.false_eq_true, if_false]
     rw [hpu]
     exact ih (A ++ B) _ (a.put oi.dst undef) Y β w hlenAB hg' hβ' hs hS
   | true =>
    have he := extE hsel hoi hFi hE A B a Y (fun j hj _ => by have := hpr j hj; rw [hE, Bool.true_and] at this; exact ⟨this.2, this.1⟩) h
    simp only [eOp] at he
    rcases he with ⟨hw, hact⟩ | ⟨hw, hS⟩
    ·
     simp only [hwa, hw, if_true]
     refine .inl (acts_wp (acts_of_same hex ?_ (hact w hs.z)))
     rintro v w' ⟨Y', ⟨hs', hlf⟩, hS⟩
     rw [hpu]
     exact ih (A ++ B) _ _ Y' β w' hlenAB hg' hβ' (hs.lf hs' hlf) hS
    ·
     simp only [hwa, hw, Bool.false_eq_true, if_false]
     rw [hpu]
     exact ih (A ++ B) _ _ Y β w hlenAB hg' hβ' hs hS
theorem swr_quiet {Kf1 Kf2 : Act → List HL → Prop} {fl : List (Nat × Obj)} {β : Nat → Nat} {post : List Nat} (hq : ∀ (j : Nat) (o : Oper) cs b, ops[j]? = some o → o.op ≠ .select cs b)
  (hK : ∀ a Y, Kf1 a Y → SWr P R cx ops E (fun _ => false) Kf2 post (putT a fl β) (zT fl β :: Y)) : ∀ (rem : List Nat) (a : Act) (Y : List HL),
  (∀ j ∈ rem, E j = false ∧ F j = false ∧ ∀ oj, ops[j]? = some oj → ∀ q ∈ fl, q.1 ∉ oj.looksAt ops ∧ oj.dst ≠ some q.1) → SWr P R cx ops E F Kf1 rem a Y → SWr P R cx ops E (fun _ => false) Kf2 (rem ++ post) (putT a fl β) (zT fl β :: Y)
 | [], a, Y, _, h => hK a Y h
 | j :: rem, a, Y, hr, h => by
  obtain ⟨h1, h2, h3⟩ := hr j (by simp)
  simp only [List.cons_append, SWr] at h ⊢
  cases hj : ops[j]? with
  | none =>
   simp only [hj] at h ⊢
   exact swr_quiet hq hK rem a Y (fun k hk => hr k (by simp [hk])) h
  | some oj =>
   have hap := h3 oj hj
   simp only [hj, h1, h2, Bool.false_eq_true, if_false, eOp] at h ⊢
   obtain ⟨v, hqv, hS⟩ := h
   have hall : putO a fl (fun d => some (β d)) = putT a fl β := (putO_all (fl := fl) (β := fun d => some (β d)) (fun _ _ => by simp)).1
   have hex := putO_exec (ops := ops) (fun cs b => hq j oj cs b hj) (a := a) (β := fun d => some (β d)) (fl := fl) (fun q hq => (hap q hq).1)
   have hwa := putO_wanted (ops := ops) (o := oj) (a := a) (β := fun d => some (β d)) (fl := fl) (fun q hq => (hap q hq).1)
   have hpu : (putO a fl (fun d => some (β d))).put oj.dst v = putO (a.put oj.dst v) fl (fun d => some (β d)) := putO_put (fun q hq => (hap q hq).2)
   have hall2 : putO (a.put oj.dst v) fl (fun d => some (β d)) = putT (a.put oj.dst v) fl β := (putO_all (fl := fl) (β := fun d => some (β d)) (fun _ _ => by simp)).1
   rw [hall] at hex hwa hpu
   rw [hall2] at hpu
   exact ⟨v, hqv.of_same hex hwa, by rw [hpu]; exact swr_quiet hq hK rem _ Y (fun k hk => hr k (by simp [hk])) hS⟩
theorem Good.more {N1 N2 : Nat} {rem : List Nat} {listed : Array Bool} (h : Good ops N1 rem listed) (h12 : N1 ≤ N2) (h2 : N2 ≤ ops.size) : Good ops N2 (rem ++ List.range' N1 (N2 - N1)) listed := by
 refine ⟨h.sz, ?_, ?_, ?_, ?_, h.down⟩
 ·
  rw [List.pairwise_append]
  refine ⟨h.sorted, List.pairwise_lt_range', fun x hx y hy => ?_⟩
  have := h.lt x hx
  have := List.mem_range'_1.1 hy
  omega
 ·
  intro i hi
  rcases List.mem_append.1 hi with hi | hi
  · have := h.lt i hi; omega
  · have := List.mem_range'_1.1 hi; omega
 ·
  intro i hi
  by_cases h3 : i < N1
  ·
   rw [h.un i h3, List.mem_append]
   constructor
   · exact .inl
   ·
    rintro (h4 | h4)
    · exact h4
    · have := List.mem_range'_1.1 h4; omega
  ·
   have h4 := h.tl i (by omega) (by omega)
   have h5 : i ∈ rem ++ List.range' N1 (N2 - N1) := List.mem_append.2 (.inr (List.mem_range'_1.2 (by omega)))
   exact ⟨fun _ => h5, fun _ => h4⟩
 ·
  intro i hi hi2
  exact h.tl i (by omega) hi2
def tailB (ops : Array Oper) (E F : Nat → Bool) (N1 : Nat) : Bool :=
 (List.range ops.size).all fun i => decide (i < N1) || (List.range N1).all fun j => !(E j || F j) || waits ops i j
theorem any_of_swrG {N1 N2 : Nat} {Q : Exit → Act → World → Prop} {fl : List (Nat × Obj)} {Kf2 : Act → List HL → Prop} (hfl : FlOk P ops F N1 fl) (h12 : N1 ≤ N2) (hB : drawB ops E N2 = true) (htB : tailB ops E F N1 = true)
  (hK1 : ∀ a Y β, Kf a Y → SWr P R cx ops E (fun _ => false) Kf2 (List.range' N1 (N2 - N1)) (putT a fl β) (zT fl β :: Y))
  (hK : ∀ a Y w, Kf2 a Y → St cx.w0 cx.S0 R ([] :: Y) w → wpList P ops Q (ops.toList.drop N2) a w) : ∀ (m : Nat) (rem : List Nat) (listed : Array Bool) (a : Act) (Y : List HL) (β : Nat → Option Nat) (w : World), rem.length = m → Good ops N1 rem listed →
   (∀ i, i < N1 → F i = true → ∀ oi d, ops[i]? = some oi → oi.dst = some d → (i ∈ rem ↔ β d = none)) →
   St cx.w0 cx.S0 R (zO fl β :: Y) w → SWr P R cx ops E F Kf rem a Y → wpAny P .any ops Q (m + (ops.size - N1)) listed (putO a fl β) w := by
 have hB0 := hB
 simp only [drawB, Bool.and_eq_true, decide_eq_true_eq] at hB
 obtain ⟨⟨⟨⟨⟨hlow, hns⟩, hN⟩, hpair⟩, htail⟩, hseq⟩ := hB
 have hsel := Region.noSelect_spec hns
 have hN1 : N1 ≤ ops.size := by omega
 have fin : ∀ (rem : List Nat) (listed : Array Bool) (a : Act) (Y : List HL) (β : Nat → Option Nat) (w : World), Good ops N1 rem listed → (∀ i, i < N1 → F i = true → ∀ oi d, ops[i]? = some oi → oi.dst = some d → (i ∈ rem ↔ β d = none)) →
   St cx.w0 cx.S0 R (zO fl β :: Y) w → (∀ j ∈ rem, E j = false ∧ F j = false) → SWr P R cx ops E F Kf rem a Y → wpAny P .any ops Q (rem.length + (ops.size - N1)) listed (putO a fl β) w := by
  intro rem listed a Y β w hg hβ hs hqr h
  have hall := putO_all (a := a) (β := β) (fl := fl) (fun q hq => by
   obtain ⟨i, hi, hFi, oi, ho, hd⟩ := hfl.all q hq
   intro hn
   have := hqr i ((hβ i hi hFi oi q.1 ho hd).2 hn)
   rw [hFi] at this
   cases this.2)
  have h2 := swr_quiet (Kf2 := Kf2) (fl := fl) (β := fun d => (β d).getD 0) hsel (fun a Y hh => hK1 a Y _ hh) rem a Y (fun j hj => ⟨(hqr j hj).1, (hqr j hj).2, fun oj hoj => hfl.apart j (hg.lt j hj) (hqr j hj).2 oj hoj⟩) h
  rw [← hall.1, ← hall.2] at h2
  have key := any_of_swr (P := P) (R := R) (cx := cx) (ops := ops) (E := E) (F := fun _ => false) (N := N2) (Q := Q) (fl := []) (Kf := Kf2)
   ⟨List.nodup_nil, (fun _ _ h => by cases h), (fun _ _ _ _ _ q hq => by cases hq), (fun _ _ _ _ h => by cases h), (fun q hq => by cases hq)⟩ hB0 (fun a Y β w hk hs => hK a Y w hk hs) _ (rem ++ List.range' N1 (N2 - N1)) listed (putO a fl β) (zO fl β :: Y) (fun _ => none) w rfl (hg.more h12 hN)
   (fun i _ h => by cases h) (hs.perm (X := []) (by simp [zO])) h2
  have e : (rem ++ List.range' N1 (N2 - N1)).length + (ops.size - N2) = rem.length + (ops.size - N1) := by simp; omega
  rw [e] at key
  exact key
 intro m
 induction m with
 | zero =>
  intro rem listed a Y β w hm hg hβ hs h
  have hr : rem = [] := List.eq_nil_of_length_eq_zero hm
  subst hr
  exact fin [] listed a Y β w hg hβ hs (fun j hj => by cases hj) h
 | succ m ih =>
  intro rem listed a Y β w hm hg hβ hs h
  by_cases hqr : ∀ j ∈ rem, E j = false ∧ F j = false
  ·
   have := fin rem listed a Y β w hg hβ hs hqr h
   rwa [hm] at this
  obtain ⟨j0, hj0, hj0E⟩ : ∃ j0, j0 ∈ rem ∧ (E j0 || F j0) = true := by
   refine Classical.byContradiction fun hn => hqr fun j hj => ?_
   cases h1 : E j <;> cases h2 : F j <;> first | exact ⟨rfl, rfl⟩ | exact absurd ⟨j, hj, by simp [h1, h2]⟩ hn
  have hready : ∀ i, i ∈ Region.ready .any ops listed → i ∈ rem := by
   intro i hi
   obtain ⟨h1, o, ho, hdeps⟩ := mem_ready.1 hi
   have hisz := (Array.getElem?_eq_some_iff.1 ho).1
   by_cases hiN : i < N1
   · exact (hg.un i hiN).1 h1
   ·
    exfalso
    have hw := List.all_eq_true.1 htB i (by simpa using hisz)
    simp only [Bool.or_eq_true, decide_eq_true_eq] at hw
    have hw2 := List.all_eq_true.1 (hw.resolve_left hiN) j0 (by simpa using hg.lt j0 hj0)
    rw [hj0E, Bool.not_true, Bool.false_or] at hw2
    have h3 := waits_listed hlow hg.down i j0 o ho hdeps hw2
    have h4 := (hg.un j0 (hg.lt j0 hj0)).2 hj0
    have hjs : j0 < listed.size := by have := hg.lt j0 hj0; have := hg.sz; omega
    rw [getD_tf hjs] at h3 h4
    rw [h3] at h4; cases h4
  rw [show m + 1 + (ops.size - N1) = (m + (ops.size - N1)) + 1 from by omega]
  refine ⟨fun h0 => ?_, fun i hi => ?_⟩
  ·
   exfalso
   cases rem with
   | nil => simp at hm
   | cons i0 r =>
    have hi0N := hg.lt i0 (by simp)
    have hi0 : i0 < ops.size := by omega
    have : i0 ∈ Region.ready .any ops listed := by
     refine mem_ready.2 ⟨(hg.un i0 hi0N).2 (by simp), ops[i0], Array.getElem?_eq_getElem hi0, fun e he hb => ?_⟩
     have hl := List.all_eq_true.1 hlow i0 (by simpa using hi0)
     simp only [Array.getElem?_eq_getElem hi0] at hl
     have hl2 := Array.all_eq_true_iff_forall_mem.1 hl e he
     simp only [hb, Bool.not_true, Bool.false_or, decide_eq_true_eq] at hl2
     have hnot : e.on ∉ i0 :: r := by
      intro hm'
      rcases List.mem_cons.1 hm' with h' | h'
      · omega
      ·
       have := (List.pairwise_cons.1 hg.sorted).1 e.on h'
       omega
     have h5 := (hg.un e.on (by omega))
     have hes : e.on < listed.size := by rw [hg.sz]; omega
     rw [getD_tf hes] at h5 ⊢
     cases hx : listed[e.on] with
     | true => rfl
     | false => exact absurd (h5.1 hx) hnot
    rw [h0] at this; cases this
  ·
   obtain ⟨h1, oi, hoi, hdeps⟩ := mem_ready.1 hi
   obtain ⟨A, B, hAB⟩ := List.append_of_mem (hready i hi)
   have hiN := hg.lt i (hready i hi)
   have hsz : i < listed.size := by rw [hg.sz]; omega
   have hA : ∀ j ∈ A, j < i ∧ j ∈ rem := by
    intro j hj
    have := hg.sorted
    rw [hAB, List.pairwise_append] at this
    exact ⟨this.2.2 j hj i (by simp), by rw [hAB]; simp [hj]⟩
   have hpr : ∀ j ∈ A, (∀ oj, ops[j]? = some oj → oj.apart ops oi = true) ∧ (E i && E j) = false := by
    intro j hj
    obtain ⟨hji, hjr⟩ := hA j hj
    have hp := List.all_eq_true.1 (List.all_eq_true.1 hpair i (by simp; omega)) j (by simpa using hji)
    rcases Bool.or_eq_true _ _ ▸ hp with hp | hp
    ·
     exfalso
     have h3 := waits_listed hlow hg.down i j oi hoi hdeps hp
     have h4 := (hg.un j (hg.lt j hjr)).2 hjr
     have hjs : j < listed.size := by have := hg.lt j hjr; have := hg.sz; omega
     rw [getD_tf hjs] at h3 h4
     rw [h3] at h4; cases h4
    ·
     rw [hoi] at hp
     split at hp
     ·
      rename_i oj oi' hoj hoi'
      cases hoi'
      simp only [Bool.and_eq_true, Bool.not_eq_true'] at hp
      exact ⟨fun oj' ho' => by rw [hoj] at ho'; cases ho'; exact hp.1, hp.2⟩
     · cases hp
   have hg' : Good ops N1 (A ++ B) (listed.setIfInBounds i true) := by
    have hnd : rem.Nodup := hg.sorted.imp (fun h => by omega)
    refine ⟨by simp [hg.sz], ?_, ?_, ?_, ?_, ?_⟩
    ·
     have := hg.sorted
     rw [hAB] at this
     exact this.sublist (List.Sublist.append (List.Sublist.refl A) (List.sublist_cons_self i B))
    · intro j hj; exact hg.lt j (by rw [hAB]; rcases List.mem_append.1 hj with h | h <;> simp [h])
    ·
     intro j hjN
     have hjs : j < listed.size := by have := hg.sz; omega
     have h5 := hg.un j hjN
     rw [getD_tf hjs] at h5
     rw [getD_tf (by simpa using hjs), Array.getElem_setIfInBounds (by simpa using hjs)]
     by_cases hij : i = j
     ·
      subst hij
      rw [if_pos rfl]
      rw [hAB, List.nodup_append] at hnd
      simp only [Bool.true_eq_false, false_iff, List.mem_append, not_or]
      exact ⟨fun hm => hnd.2.2 i hm i (by simp) rfl, (List.nodup_cons.1 hnd.2.1).1⟩
     ·
      rw [if_neg hij, h5, hAB]
      simp only [List.mem_append, List.mem_cons]
      constructor
      ·
       rintro (h | h | h)
       · exact .inl h
       · exact absurd h.symm hij
       · exact .inr h
      ·
       rintro (h | h)
       · exact .inl h
       · exact .inr (.inr h)
    ·
     intro j hjN hjs
     have hjs' : j < listed.size := by rw [hg.sz]; exact hjs
     have := hg.tl j hjN hjs
     rw [getD_tf hjs'] at this
     rw [getD_tf (by simpa using hjs'), Array.getElem_setIfInBounds (by simpa using hjs'), if_neg (by omega)]
     exact this
    ·
     intro j o ho hlj e he hb
     have hjs : j < listed.size := by rw [hg.sz]; exact (Array.getElem?_eq_some_iff.1 ho).1
     have keep : listed.getD e.on false = true → (listed.setIfInBounds i true).getD e.on false = true := by
      intro hx
      by_cases hes : e.on < listed.size
      ·
       rw [getD_tf hes] at hx
       rw [getD_tf (by simpa using hes), Array.getElem_setIfInBounds (by simpa using hes)]
       split
       · rfl
       · exact hx
      ·
       simp only [Array.getD_eq_getD_getElem?, Array.getElem?_eq_none (Nat.le_of_not_lt hes)] at hx
       simp at hx
     rw [getD_tf (by simpa using hjs), Array.getElem_setIfInBounds (by simpa using hjs)] at hlj
     by_cases hij : i = j
     ·
      subst hij
      rw [hoi] at ho
      cases ho
      exact keep (hdeps e he hb)
     ·
      rw [if_neg hij] at hlj
      exact keep (hg.down j o ho (by rw [getD_tf hjs]; exact hlj) e he hb)
   have hlenAB : (A ++ B).length = m := by rw [hAB] at hm; simp at hm ⊢; omega
   have hnd : rem.Nodup := hg.sorted.imp (fun h => by omega)
   rw [hAB] at h
   unfold wpOp
   rw [hoi]
   cases hFi : F i with
   | true =>
    obtain ⟨oi', d, o, ho', hd, hgu, hmem, hrun⟩ := hfl.new i hiN hFi
    rw [hoi] at ho'
    cases ho'
    have hβd : β d = none := (hβ i hiN hFi oi d hoi hd).1 (by rw [hAB]; simp)
    have hS : SWr P R cx ops E F Kf (A ++ B) a Y := by
     have skip : ∀ (A : List Nat) (a : Act) (Y : List HL), SWr P R cx ops E F Kf (A ++ i :: B) a Y → SWr P R cx ops E F Kf (A ++ B) a Y := by
      intro A
      induction A with
      | nil => intro a Y h; simpa [SWr, hoi, hFi] using h
      | cons j A ihA =>
       intro a Y h
       simp only [List.cons_append, SWr] at h ⊢
       cases hj : ops[j]? with
       | none => simp only [hj] at h ⊢; exact ihA a Y h
       | some oj =>
        simp only [hj] at h ⊢
        split at h
        · rename_i hFj; rw [if_pos hFj]; exact ihA a Y h
        ·
         rename_i hFj
         rw [if_neg hFj]
         cases hEj : E j with
         | false =>
          simp only [hEj, eOp] at h ⊢
          obtain ⟨v, hq, hh⟩ := h
          exact ⟨v, hq, ihA _ _ hh⟩
         | true =>
          simp only [hEj, eOp] at h ⊢
          rcases h with ⟨h1, h2⟩ | ⟨h1, h2⟩
          ·
           refine .inl ⟨h1, fun w hs => acts_mono ?_ (h2 w hs)⟩
           rintro v w' ⟨Y', hs', hh⟩
           exact ⟨Y', hs', ihA _ _ hh⟩
          · exact .inr ⟨h1, ihA _ _ h2⟩
     exact skip A a Y h
    obtain ⟨mm, hr⟩ := hrun (putO a fl β) w
    have hw : Region.wanted oi (yielded ops (putO a fl β).tmps) = true := by simp [Region.wanted, hgu]
    simp only [hw, if_true]
    refine .inl ?_
    unfold Oper.wp
    rw [hr]
    have hnew := putO_new (a := a) (b := w.heap.size) hfl.nd hmem hβd
    show wpAny P .any ops Q (m + (ops.size - N1)) (listed.setIfInBounds i true) ((putO a fl β).put oi.dst (.pointer (some ⟨w.heap.size, 0, none⟩))) _
    rw [hd, hnew.1]
    have hs0 : St cx.w0 cx.S0 R (zO fl β :: Y) { w with drawn := mm } := hs.drawn mm
    have hs1 : St cx.w0 cx.S0 R (zO fl (setB β d w.heap.size) :: Y) ({ w with drawn := mm }.alloc o) := by
     refine (hs0.new o).perm (X := []) ?_
     simp only [List.flatten_cons, List.append_nil]
     rw [← List.append_assoc]
     exact List.Perm.append_right _ (by simpa using hnew.2.symm)
    refine ih (A ++ B) _ a Y (setB β d w.heap.size) _ hlenAB hg' ?_ hs1 hS
    intro i' hi' hFi' oi' d' ho' hd'
    by_cases hdd : d' = d
    ·
     subst hdd
     have hii : i' = i := hfl.inj i' i hi' hiN hFi' hFi oi' oi ho' hoi (by rw [hd', hd])
     subst hii
     simp only [setB, if_true, reduceCtorEq, iff_false]
     rw [hAB, List.nodup_append] at hnd
     simp only [List.mem_append, not_or]
     exact ⟨fun hm => hnd.2.2 i' hm i' (by simp) rfl, (List.nodup_cons.1 hnd.2.1).1⟩
    ·
     have hne : i' ≠ i := by rintro rfl; rw [hoi] at ho'; cases ho'; rw [hd] at hd'; cases hd'; exact hdd rfl
     have e1 : setB β d w.heap.size d' = β d' := by simp [setB, hdd]
     rw [e1, ← hβ i' hi' hFi' oi' d' ho' hd', hAB]
     simp [hne]
   | false =>
   have hap := hfl.apart i hiN hFi oi hoi
   have ho1 : ∀ cs b, oi.op ≠ .select cs b := fun cs b => hsel i oi cs b hoi
   have hex := putO_exec ho1 (a := a) (β := β) (fl := fl) (fun q hq => (hap q hq).1)
   have hwa := putO_wanted (o := oi) (a := a) (β := β) (fl := fl) (fun q hq => (hap q hq).1)
   have hpu : ∀ v, (putO a fl β).put oi.dst v = putO (a.put oi.dst v) fl β := fun v => putO_put (fun q hq => (hap q hq).2)
   have hβ' : ∀ i', i' < N1 → F i' = true → ∀ oi' d', ops[i']? = some oi' → oi'.dst = some d' → (i' ∈ A ++ B ↔ β d' = none) := by
    intro i' hi' hFi' oi' d' ho' hd'
    have hne : i' ≠ i := by rintro rfl; rw [hFi] at hFi'; cases hFi'
    rw [← hβ i' hi' hFi' oi' d' ho' hd', hAB]
    simp [hne]
   cases hE : E i with
   | false =>
    obtain ⟨v, hq, hS⟩ := extQ hsel hoi hFi hE A B a Y w (fun j hj _ => (hpr j hj).1) hs.z h
    rcases hq with ⟨hw, hrun⟩ | ⟨hw, rfl⟩
    ·
     simp only [hwa, hw, if_true]
     have hrun' : qacts P oi (putO a fl β) w v fun w' => St cx.w0 cx.S0 R Y w' ∧ Lf Y Y w w' := by
      have := hrun Y w hs.z
      unfold qacts at this ⊢
      rw [hex]
      exact this
     refine .inl (qacts_wp hrun' ?_)
     rintro w' ⟨hs', hlf⟩
     rw [hpu]
     exact ih (A ++ B) _ (a.put oi.dst v) Y β w' hlenAB hg' hβ' (hs.lf hs' hlf) hS
    ·
     simp only [hwa, hw, Bool.false_eq_true, if_false]
     rw [hpu]
     exact ih (A ++ B) _ (a.put oi.dst undef) Y β w hlenAB hg' hβ' hs hS
   | true =>
    have he := extE hsel hoi hFi hE A B a Y (fun j hj _ => by have := hpr j hj; rw [hE, Bool.true_and] at this; exact ⟨this.2, this.1⟩) h
    simp only [eOp] at he
    rcases he with ⟨hw, hact⟩ | ⟨hw, hS⟩
    ·
     simp only [hwa, hw, if_true]
     refine .inl (acts_wp (acts_of_same hex ?_ (hact w hs.z)))
     rintro v w' ⟨Y', ⟨hs', hlf⟩, hS⟩
     rw [hpu]
     exact ih (A ++ B) _ _ Y' β w' hlenAB hg' hβ' (hs.lf hs' hlf) hS
    ·
     simp only [hwa, hw, Bool.false_eq_true, if_false]
     rw [hpu]
     exact ih (A ++ B) _ _ Y β w hlenAB hg' hβ' hs hS
variable {n : Nat} {k : List Kont} {ρ : Env} {Y : List HL}
def Marks (ops : Array Oper) (E F : Nat → Bool) (i : Nat) (el : List Kd) (l : List Oper) : Prop := ∀ j, j < l.length → ops[i + j]? = l[j]? ∧ E (i + j) = (el.getD j (.b false)).act ∧ F (i + j) = (el.getD j (.b false)).fl
def KfOf (n : Nat) (fl : List (Nat × Obj)) (K : Env → List HL → Prop) (a : Act) (Y : List HL) : Prop := ∀ β : Nat → Nat, ∃ ρ', Fits n ρ' (putT a fl β) ∧ K ρ' (zT fl β :: Y)
structure WD (P : Program) (n : Nat) (R : HL) (cx : Cx) (ops : Array Oper) (el : List Kd) (fl : List (Nat × Obj)) (l : List Oper) (ρ : Env) (Y : List HL) (K : Env → List HL → Prop) : Prop where
 go : ∀ (E F : Nat → Bool) (i : Nat) (a : Act), Marks ops E F i el l → Fits n ρ a → SWr P R cx ops E F (KfOf n fl K) (List.range' i l.length) a Y
variable {K : Env → List HL → Prop} {el : List Kd} {fl : List (Nat × Obj)}
theorem WD.nil (h : K ρ ([] :: Y)) : WD P n R cx ops el [] [] ρ Y K := ⟨fun _ _ _ _ _ hf _ => ⟨ρ, hf, h⟩⟩
theorem WD.tail_ {e : Kd} {o : Oper} {l : List Oper} {E F : Nat → Bool} {i : Nat} (h : Marks ops E F i (e :: el) (o :: l)) :
  ops[i]? = some o ∧ E i = e.act ∧ F i = e.fl ∧ Marks ops E F (i + 1) el l := by
 refine ⟨by simpa using (h 0 (by simp)).1, by simpa using (h 0 (by simp)).2.1, by simpa using (h 0 (by simp)).2.2, fun j hj => ?_⟩
 have := h (j + 1) (by simpa using hj)
 rw [show i + (j + 1) = i + 1 + j from by omega] at this
 simpa using this
theorem SWr.mono {E F : Nat → Bool} {Kf Kf' : Act → List HL → Prop} (h : ∀ a Y, Kf a Y → Kf' a Y) : ∀ (l : List Nat) (a : Act) (Y : List HL), SWr P R cx ops E F Kf l a Y → SWr P R cx ops E F Kf' l a Y
 | [], a, Y, hh => h a Y hh
 | j :: A, a, Y, hh => by
  simp only [SWr] at hh ⊢
  cases hj : ops[j]? with
  | none => simp only [hj] at hh ⊢; exact SWr.mono h A a Y hh
  | some oj =>
   simp only [hj] at hh ⊢
   split at hh
   · rename_i hFj; rw [if_pos hFj]; exact SWr.mono h A a Y hh
   ·
    rename_i hFj
    rw [if_neg hFj]
    cases hEj : E j with
    | false =>
     simp only [hEj, eOp] at hh ⊢
     obtain ⟨v, hq, h1⟩ := hh
     exact ⟨v, hq, SWr.mono h A _ _ h1⟩
    | true =>
     simp only [hEj, eOp] at hh ⊢
     rcases hh with ⟨h1, h2⟩ | ⟨h1, h2⟩
     ·
      refine .inl ⟨h1, fun w hs => acts_mono ?_ (h2 w hs)⟩
      rintro v w' ⟨Y', hs', h3⟩
      exact ⟨Y', hs', SWr.mono h A _ _ h3⟩
     · exact .inr ⟨h1, SWr.mono h A _ _ h2⟩
theorem WD.float {T : Tab} (hT : TabOk P T) {d : Nat} {t ty : TypeId} {pos : String} {af : Array Edge} {l : List Oper} {z : Value} {zs : List Value} (hz : look? T.zeros t = some z) (hc : cells? z = some zs) (hd : d < n)
  (hk : WD P n R cx ops el fl l ρ Y (fun ρ' Y' => ∀ b, ∀ Z Y2, Y' = Z :: Y2 → K ((d, .pointer (some ⟨b, 0, none⟩)) :: ρ') (((b, .cells zs.toArray t (0, 0)) :: Z) :: Y2))) :
  WD P n R cx ops (.f :: el) ((d, .cells zs.toArray t (0, 0)) :: fl) (⟨some d, .alloc t, ty, pos, af, none⟩ :: l) ρ Y K := by
 refine ⟨fun E F i a hl hf => ?_⟩
 obtain ⟨h1, h2, h3, h4⟩ := WD.tail_ hl
 have hn := hk.go E F (i + 1) a h4 hf
 have hF : F i = true := h3
 simp only [List.length_cons, List.range'_succ, SWr, h1, hF, if_true]
 refine SWr.mono ?_ _ _ _ hn
 intro a' Y' hK β
 obtain ⟨ρ', hf', hK'⟩ := hK β
 exact ⟨_, hf'.put hd _, hK' (β d) _ _ rfl⟩
theorem St.less {w0 w : World} {S0 : List Nat} {Y : List HL} (hs : St w0 S0 R Y w) : St w0 S0 R [] w := hs.perm (M := []) (X := Y.flatten) (by simp)
theorem WD.val {d : Nat} {op : Op} {ty : TypeId} {pos : String} {af : Array Edge} {l : List Oper} {v : Value} (h : OpVal P n R cx op ty ρ [] v) (hd : d < n) (hk : WD P n R cx ops el fl l ((d, v) :: ρ) Y K) :
  WD P n R cx ops (.b false :: el) fl (⟨some d, op, ty, pos, af, none⟩ :: l) ρ Y K := by
 refine ⟨fun E F i a hl hf => ?_⟩
 obtain ⟨h1, h2, h3, h4⟩ := WD.tail_ hl
 have hn := hk.go E F (i + 1) _ h4 (hf.put hd v)
 have hE : E i = false := h2
 have hF : F i = false := h3
 simp only [List.length_cons, List.range'_succ, SWr, h1, hE, hF, Bool.false_eq_true, if_false, eOp]
 exact ⟨v, .inl ⟨by simp [Region.wanted], fun Y w hs => .inl ⟨w, h.go ⟨some d, op, ty, pos, af, none⟩ a w rfl rfl hf hs.less, hs, Lf.rfl'⟩⟩, hn⟩
theorem WD.act {o : Oper} {l : List Oper} (hg : o.guard = none)
  (h : ∀ a w, Fits n ρ a → St cx.w0 cx.S0 R Y w → acts P o a w fun a' w' => ∃ ρ' Y', Fits n ρ' a' ∧ (St cx.w0 cx.S0 R Y' w' ∧ Lf Y Y' w w') ∧ WD P n R cx ops el fl l ρ' Y' K) :
  WD P n R cx ops (.b true :: el) fl (o :: l) ρ Y K := by
 refine ⟨fun E F i a hl hf => ?_⟩
 obtain ⟨h1, h2, h3, h4⟩ := WD.tail_ hl
 have hE : E i = true := h2
 have hF : F i = false := h3
 simp only [List.length_cons, List.range'_succ, SWr, h1, hE, hF, Bool.false_eq_true, if_false, eOp]
 refine .inl ⟨by simp [Region.wanted, hg], fun w hs => acts_mono ?_ (h a w hf hs)⟩
 rintro v w' ⟨ρ', Y', hf', hs', hk⟩
 exact ⟨Y', hs', hk.go E F (i + 1) _ h4 hf'⟩
theorem Lf.call {Y pre rest L' : List HL} {ro : HL} {w w' : World} (hsel : Sel Y pre rest) (hst : St w (ids pre.flatten) ro L' w') : Lf Y (L' ++ rest) w w' := by
 have hp := hsel.perm
 have hi : (ids Y.flatten).Perm (ids pre.flatten ++ ids rest.flatten) := by simpa [ids] using hp.map (·.1)
 refine ⟨hst.sz, fun b hb hn => hst.fr b hb (fun h => hn (hi.mem_iff.2 (by simp [h]))), fun b hb => ?_⟩
 simp only [List.flatten_append, ids, List.map_append, List.mem_append] at hb
 rcases hb with hb | hb
 ·
  rcases hst.own b hb with h | h
  · exact .inl (hi.mem_iff.2 (by simp [h]))
  · exact .inr h
 · exact .inl (hi.mem_iff.2 (List.mem_append.2 (.inr hb)))
theorem Lf.new {Y : List HL} {w : World} {o : Obj} {m : Nat} : Lf Y ([(w.heap.size, o)] :: Y) w ({ w with drawn := m }.alloc o) := by
 refine ⟨by simp, fun b hb _ => heap_alloc_old { w with drawn := m } o hb, fun b hb => ?_⟩
 simp only [List.flatten_cons, List.singleton_append, ids, List.map_cons, List.mem_cons] at hb
 rcases hb with rfl | hb
 · exact .inr (Nat.le_refl _)
 · exact .inl hb
theorem Lf.upd {b : Nat} {o o' : Obj} {L L' : List HL} {w w' : World} (hu : Upd b o o' L L') (ho : ∀ j, j ≠ b → w'.heap[j]? = w.heap[j]?) (hz : w'.heap.size = w.heap.size) : Lf L L' w w' := by
 obtain ⟨A, B, h1, h2⟩ := hu.split
 have hids : ids L'.flatten = ids L.flatten := by rw [h1, h2]; simp [ids]
 refine ⟨by omega, fun j _ hn => ho j ?_, fun j hj => .inl (by rw [← hids]; exact hj)⟩
 rintro rfl
 exact hn (by rw [h1]; simp [ids])
theorem Ctr.use2 {f : FuncId} {args : List Value} {pre rest : List HL} {ro : HL} {post : Value → List HL → Prop} (hsp : Ctr P f args pre ro post)
  {w0 w : World} {S0 : List Nat} {L : List HL} (hs : St w0 S0 R L w) (h : Sel L pre rest) (hro : RoIn R rest ro) :
  Calls P f args.toArray w fun e w' => ∃ v L', e = .returned v ∧ post v L' ∧ St w0 S0 R (L' ++ rest) w' ∧ Lf L (L' ++ rest) w w' := by
 have hp := h.perm
 have hi : (ids L.flatten).Perm (ids pre.flatten ++ ids rest.flatten) := by simpa [ids] using hp.map (·.1)
 obtain ⟨n1, n2, n3⟩ := List.nodup_append.1 (hi.nodup_iff.1 hs.nd)
 refine (hsp.go w (fun p hpm => hs.has p (hp.mem_iff.2 (by simp [hpm]))) n1 (fun p hpm => ?_)).mono ?_
 ·
  rcases hro p hpm with h1 | h1
  · exact ⟨hs.has p (hp.mem_iff.2 (by simp [h1])), fun hm => n3 _ hm _ (List.mem_map_of_mem (f := (·.1)) h1) rfl⟩
  ·
   obtain ⟨h2, h3⟩ := hs.ro p h1
   have hlt := (Array.getElem?_eq_some_iff.1 h2).1
   refine ⟨by rw [hs.fr _ hlt h3]; exact h2, fun hm => ?_⟩
   rcases hs.own _ (hi.mem_iff.2 (List.mem_append.2 (.inl hm))) with h | h
   · exact h3 h
   · omega
 ·
  rintro e w' ⟨v, L', he, hpost, hst⟩
  exact ⟨v, L', he, hpost, hs.call h hst, Lf.call h hst⟩
theorem WD.prim {d : Nat} {op : Op} {ty : TypeId} {pos : String} {af : Array Edge} {l : List Oper} {pre rest : List HL} {post : Value → List HL → Prop}
  (h : Prim P n R cx op ty ρ Y pre post) (hsel : Sel Y pre rest) (hd : d < n) (hk : ∀ v L', post v L' → WD P n R cx ops el fl l ((d, v) :: ρ) (L' ++ rest) K) :
  WD P n R cx ops (.b true :: el) fl (⟨some d, op, ty, pos, af, none⟩ :: l) ρ Y K := by
 refine WD.act rfl fun a w hf hs => ?_
 obtain ⟨v, L', w', hr, hp, hst⟩ := h.go ⟨some d, op, ty, pos, af, none⟩ a w rfl rfl hf hs
 exact .inl ⟨_, _, hr, _, _, hf.put hd v, ⟨hs.call hsel hst, Lf.call hsel hst⟩, hk v L' hp⟩
theorem WD.primU {op : Op} {ty : TypeId} {pos : String} {af : Array Edge} {l : List Oper} {pre rest : List HL} {post : Value → List HL → Prop}
  (h : Prim P n R cx op ty ρ Y pre post) (hsel : Sel Y pre rest) (hk : ∀ v L', post v L' → WD P n R cx ops el fl l ρ (L' ++ rest) K) :
  WD P n R cx ops (.b true :: el) fl (⟨none, op, ty, pos, af, none⟩ :: l) ρ Y K := by
 refine WD.act rfl fun a w hf hs => ?_
 obtain ⟨v, L', w', hr, hp, hst⟩ := h.go ⟨none, op, ty, pos, af, none⟩ a w rfl rfl hf hs
 exact .inl ⟨_, _, hr, _, _, by simpa [Act.put] using hf, ⟨hs.call hsel hst, Lf.call hsel hst⟩, hk v L' hp⟩
theorem WD.new_ {d : Nat} {op : Op} {ty : TypeId} {pos : String} {af : Array Edge} {l : List Oper} {o : Obj} {f : Nat → Value} (h : NewOf P n R cx op ty ρ Y o f) (hd : d < n)
  (hk : ∀ b, WD P n R cx ops el fl l ((d, f b) :: ρ) ([(b, o)] :: Y) K) : WD P n R cx ops (.b true :: el) fl (⟨some d, op, ty, pos, af, none⟩ :: l) ρ Y K := by
 refine WD.act rfl fun a w hf hs => ?_
 obtain ⟨m, hr⟩ := h.go ⟨some d, op, ty, pos, af, none⟩ a w rfl rfl hf hs
 have hs' : St cx.w0 cx.S0 R Y { w with drawn := m } := ⟨hs.has, hs.nd, hs.fr, hs.own, hs.sz, hs.ro, hs.env⟩
 exact .inl ⟨_, _, hr, _, _, hf.put hd _, ⟨hs'.new o, Lf.new⟩, hk w.heap.size⟩
theorem WD.call {d : Nat} {c : Call} {ty : TypeId} {pos : String} {af : Array Edge} {l : List Oper} {fo : Operand} {xs : Array Operand} {tys : Array TypeId}
  {f : FuncId} {fst vs cap args : List Value} {pre rest : List HL} {ro : HL} {post : Value → List HL → Prop}
  (hc : c = ⟨.value fo, xs, tys⟩) (hfo : ev? ρ fo = some (.func (.func f) fst.toArray cap.toArray)) (hxs : evs? ρ xs.toList = some vs) (hargs : fst ++ vs ++ cap = args)
  (hsp : Ctr P f args pre ro post) (hsel : Sel Y pre rest) (hro : RoIn R rest ro) (hd : d < n)
  (hk : ∀ v L', post v L' → WD P n R cx ops el fl l ((d, v) :: ρ) (L' ++ rest) K) :
  WD P n R cx ops (.b true :: el) fl (⟨some d, .call c, ty, pos, af, none⟩ :: l) ρ Y K := by
 refine WD.act rfl fun a w hf hs => ?_
 have hxs' := hf.evs hxs
 have hx : xs.map a.eval = vs.toArray := by cases xs; simp at hxs'; simp [hxs']
 subst hc
 have hcall := hsp.callable args.toArray w
 have hr : (execOp a.eval ⟨some d, .call ⟨.value fo, xs, tys⟩, ty, pos, af, none⟩).run P w = .ok (.enter f args.toArray) w := by
  unfold execOp
  simp only [resolve, Deferred.ofValue, hf.ev hfo, hx, Sem.run_bind, Sem.run_pure, Result.andThen_ok, invoke]
  rw [show (fst.toArray ++ vs.toArray ++ cap.toArray) = args.toArray from by rw [← hargs]; simp, hcall]
 refine .inr (.inr ⟨_, _, _, hr, (hsp.use2 hs hsel hro).mono ?_⟩)
 rintro e w' ⟨v, L', rfl, hpost, hst⟩
 exact ⟨v, rfl, _, _, hf.put hd v, hst, hk v L' hpost⟩
theorem Ctr.quiet {f : FuncId} {args : List Value} {ro : HL} {post : Value → List HL → Prop} {v0 : Value} (hsp : Ctr P f args [] ro post) (hv : ∀ v L', post v L' → v = v0) (hro : ∀ p ∈ ro, p ∈ R) {w : World} (hs : St cx.w0 cx.S0 R Y w) :
  Calls P f args.toArray w fun e w' => e = .returned v0 ∧ St cx.w0 cx.S0 R Y w' ∧ Lf Y Y w w' := by
 refine (hsp.use2 hs (Sel.nil (L := Y)) (fun p hp => .inr (hro p hp))).mono ?_
 rintro e w' ⟨v, L', rfl, hpost, hst, hlf⟩
 refine ⟨by rw [hv v L' hpost], hst.perm (M := Y) (X := L'.flatten) ?_, hlf.1, hlf.2.1, fun b hb => .inl hb⟩
 simp only [List.flatten_append]
 exact List.perm_append_comm
theorem WD.callQ {d : Nat} {c : Call} {ty : TypeId} {pos : String} {af : Array Edge} {l : List Oper} {fo : Operand} {xs : Array Operand} {tys : Array TypeId}
  {f : FuncId} {fst vs cap args : List Value} {ro : HL} {post : Value → List HL → Prop} (v0 : Value)
  (hc : c = ⟨.value fo, xs, tys⟩) (hfo : ev? ρ fo = some (.func (.func f) fst.toArray cap.toArray)) (hxs : evs? ρ xs.toList = some vs) (hargs : fst ++ vs ++ cap = args) (hi : P.inits.idxOf? f = none)
  (hsp : Ctr P f args [] ro post) (hv : ∀ v L', post v L' → v = v0) (hro : ∀ p ∈ ro, p ∈ R) (hd : d < n)
  (hk : WD P n R cx ops el fl l ((d, v0) :: ρ) Y K) :
  WD P n R cx ops (.b false :: el) fl (⟨some d, .call c, ty, pos, af, none⟩ :: l) ρ Y K := by
 refine ⟨fun E F i a hl hf => ?_⟩
 obtain ⟨h1, h2, h3, h4⟩ := WD.tail_ hl
 have hn := hk.go E F (i + 1) _ h4 (hf.put hd v0)
 have hE : E i = false := h2
 have hF : F i = false := h3
 simp only [List.length_cons, List.range'_succ, SWr, h1, hE, hF, Bool.false_eq_true, if_false, eOp]
 refine ⟨v0, .inl ⟨by simp [Region.wanted], fun Y w hs => .inr ⟨f, args.toArray, w, ?_, hi, hsp.quiet hv hro hs⟩⟩, hn⟩
 have hxs' := hf.evs hxs
 have hx : xs.map a.eval = vs.toArray := by cases xs; simp at hxs'; simp [hxs']
 unfold execOp
 subst hc
 have hcall := hsp.callable
 simp only [resolve, Deferred.ofValue, hf.ev hfo, hx, Sem.run_bind, Sem.run_pure, Result.andThen_ok, invoke]
 rw [show (fst.toArray ++ vs.toArray ++ cap.toArray) = args.toArray from by rw [← hargs]; simp, hcall]
theorem WD.valA {d : Nat} {op : Op} {ty : TypeId} {pos : String} {af : Array Edge} {l : List Oper} {v : Value}
  (h : OpVal P n R cx op ty ρ Y v) (hd : d < n) (hk : WD P n R cx ops el fl l ((d, v) :: ρ) Y K) : WD P n R cx ops (.b true :: el) fl (⟨some d, op, ty, pos, af, none⟩ :: l) ρ Y K :=
 WD.act rfl fun a w hf hs => .inl ⟨_, _, h.go ⟨some d, op, ty, pos, af, none⟩ a w rfl rfl hf hs, _, _, hf.put hd v, ⟨hs, Lf.rfl'⟩, hk⟩
theorem WD.store {T : Tab} (hT : TabOk P T) {l : List Oper} {t ty : TypeId} {x y : Operand} {pos : String} {af : Array Edge} {b off m : Nat} {ag : Bool} {L' : List HL} {cl cl' vs : List Value} {e : TypeId} {v : Value}
  (hx : ev? ρ x = some (.pointer (some ⟨b, off, none⟩))) (hu : Upd b (.cells cl.toArray e (0, 0)) (.cells cl'.toArray e (0, 0)) Y L')
  (hy : ev? ρ y = some v) (hc : cells? v = some vs) (hz : look? T.tys t = some (ag, m)) (hl : vs.length = m) (h1 : allOne vs = true)
  (hv : splice? cl off vs = some cl')
  (hk : WD P n R cx ops el fl l ρ L' K) : WD P n R cx ops (.b true :: el) fl (⟨none, .store t x y, ty, pos, af, none⟩ :: l) ρ Y K := by
 refine WD.act rfl fun a w hf hs => ?_
 obtain ⟨A, B, e1, -⟩ := hu.split
 have hb : w.heap[b]? = some (.cells cl.toArray e (0, 0)) := hs.has (b, .cells cl.toArray e (0, 0)) (by rw [e1]; simp)
 have hst := run_storeCells_splice (P := P) hb hv h1
 have hcs := cells?_eq hc
 have hz' := (hT.tys _ (look?_mem hz)).2
 have hr : (execOp a.eval ⟨none, .store t x y, ty, pos, af, none⟩).run P w = .ok .skip (w.setRow b cl'.toArray) := by
  unfold execOp
  simp [hf.ev hx, hf.ev hy, Instr.storeAt, Instr.sureAddr, storeVar, hz' w, hcs, hl, hst]
 exact .inr (.inl ⟨_, hr, _, _, by simpa [Act.put] using hf, ⟨hs.upd hu (setRow_heap w b _ _ e _ hb) (fun j hj => setRow_other w b j _ hj) (setRow_size ..) ⟨rfl, rfl, rfl⟩, Lf.upd hu (fun j hj => setRow_other w b j _ hj) (setRow_size ..)⟩, hk⟩)
theorem WD.guardGo {e : Bool} {d : Option Nat} {op : Op} {ty : TypeId} {pos : String} {af : Array Edge} {l : List Oper} {j s : Nat} {want b : Bool}
  (hj : (ops[j]?).bind (·.dst) = some s) (hb : ρ.get? s = some (.bool b)) (hw : b = want)
  (h : ∀ E F i a, Marks ops E F (i + 1) el l → Fits n ρ a → Region.wanted ⟨d, op, ty, pos, af, some (j, want)⟩ (yielded ops a.tmps) = true →
   eOp P R cx ops e ⟨d, op, ty, pos, af, some (j, want)⟩ (SWr P R cx ops E F (KfOf n fl K) (List.range' (i + 1) l.length)) a Y) :
  WD P n R cx ops (.b e :: el) fl (⟨d, op, ty, pos, af, some (j, want)⟩ :: l) ρ Y K := by
 refine ⟨fun E F i a hl hf => ?_⟩
 obtain ⟨h1, h2, h3, h4⟩ := WD.tail_ hl
 have hy := yielded_of (all := ops) hf hj hb
 have hE : E i = e := h2
 have hF : F i = false := h3
 simp only [List.length_cons, List.range'_succ, SWr, h1, hE, hF, Bool.false_eq_true, if_false]
 exact h E F i a h4 hf (by simp [Region.wanted, hy, hw])
theorem WD.guardGoQ {d : Nat} {op : Op} {ty : TypeId} {pos : String} {af : Array Edge} {l : List Oper} {j s : Nat} {want b : Bool} {v : Value}
  (hj : (ops[j]?).bind (·.dst) = some s) (hb : ρ.get? s = some (.bool b)) (hw : b = want) (h : OpVal P n R cx op ty ρ [] v) (hd : d < n) (hk : WD P n R cx ops el fl l ((d, v) :: ρ) Y K) :
  WD P n R cx ops (.b false :: el) fl (⟨some d, op, ty, pos, af, some (j, want)⟩ :: l) ρ Y K :=
 WD.guardGo hj hb hw fun E F i a h3 hf hwt =>
  ⟨v, .inl ⟨hwt, fun Y w hs => .inl ⟨w, h.go ⟨some d, op, ty, pos, af, some (j, want)⟩ a w rfl rfl hf hs.less, hs, Lf.rfl'⟩⟩, hk.go E F (i + 1) _ h3 (hf.put hd v)⟩
theorem WD.skip_ {e : Bool} {d : Nat} {op : Op} {ty : TypeId} {pos : String} {af : Array Edge} {l : List Oper} {g : Option (Nat × Bool)}
  (hg : ∀ a, Fits n ρ a → Region.wanted ⟨some d, op, ty, pos, af, g⟩ (yielded ops a.tmps) = false) (hd : d < n) (hk : WD P n R cx ops el fl l ((d, undef) :: ρ) Y K) :
  WD P n R cx ops (.b e :: el) fl (⟨some d, op, ty, pos, af, g⟩ :: l) ρ Y K := by
 refine ⟨fun E F i a hl hf => ?_⟩
 obtain ⟨h1, h2, h3, h4⟩ := WD.tail_ hl
 have hn := hk.go E F (i + 1) _ h4 (hf.put hd undef)
 have hE : E i = e := h2
 have hF : F i = false := h3
 simp only [List.length_cons, List.range'_succ, SWr, h1, hE, hF, Bool.false_eq_true, if_false]
 cases e with
 | false => exact ⟨undef, .inr ⟨hg a hf, rfl⟩, hn⟩
 | true => exact .inr ⟨hg a hf, hn⟩
theorem WD.guardSkip {e : Bool} {d : Nat} {op : Op} {ty : TypeId} {pos : String} {af : Array Edge} {l : List Oper} {j s : Nat} {want b : Bool}
  (hj : (ops[j]?).bind (·.dst) = some s) (hb : ρ.get? s = some (.bool b)) (hw : b = !want) (hd : d < n) (hk : WD P n R cx ops el fl l ((d, undef) :: ρ) Y K) :
  WD P n R cx ops (.b e :: el) fl (⟨some d, op, ty, pos, af, some (j, want)⟩ :: l) ρ Y K :=
 WD.skip_ (fun a hf => by have hy := yielded_of (all := ops) hf hj hb; simp only [Region.wanted, hy, hw]; cases want <;> simp) hd hk
theorem WD.guardUndef {e : Bool} {d : Nat} {op : Op} {ty : TypeId} {pos : String} {af : Array Edge} {l : List Oper} {j s : Nat} {want : Bool}
  (hj : (ops[j]?).bind (·.dst) = some s) (hb : ρ.get? s = some undef) (hd : d < n) (hk : WD P n R cx ops el fl l ((d, undef) :: ρ) Y K) :
  WD P n R cx ops (.b e :: el) fl (⟨some d, op, ty, pos, af, some (j, want)⟩ :: l) ρ Y K :=
 WD.skip_ (fun a hf => by have hy := yielded_of (all := ops) hf hj hb; simp [Region.wanted, hy, undef]) hd hk
def ddrive (T : Tab) (n : Nat) : List Kd → List Oper → Env → Option (List Kd × List Oper × Env)
 | el, [], ρ => some (el, [], ρ)
 | [], l, ρ => some ([], l, ρ)
 | e :: el, o :: l, ρ => match e with
  | .f => some (.f :: el, o :: l, ρ)
  | .b true => some (.b true :: el, o :: l, ρ)
  | .b false => match o with
   | ⟨some d, op, _, _, _, none⟩ => match pop? T ρ op with
    | some v => if Nat.blt d n then ddrive T n el l ((d, v) :: ρ) else none
    | none => some (.b false :: el, o :: l, ρ)
   | o => some (.b false :: el, o :: l, ρ)
theorem WD.drive {T : Tab} (hT : TabOk P T) : ∀ {el el' : List Kd} {l l' : List Oper} {ρ ρ' : Env}, ddrive T n el l ρ = some (el', l', ρ') → WD P n R cx ops el' fl l' ρ' Y K → WD P n R cx ops el fl l ρ Y K
 | el, el', [], l', ρ, ρ', e, h => by
  have : el = el' ∧ [] = l' ∧ ρ = ρ' := by cases el <;> simpa [ddrive] using e
  obtain ⟨rfl, rfl, rfl⟩ := this
  exact h
 | [], el', o :: l, l', ρ, ρ', e, h => by simp only [ddrive, Option.some.injEq, Prod.mk.injEq] at e; obtain ⟨rfl, rfl, rfl⟩ := e; exact h
 | b :: el, el', o :: l, l', ρ, ρ', e, h => by
  unfold ddrive at e
  split at e
  · simp only [Option.some.injEq, Prod.mk.injEq] at e; obtain ⟨rfl, rfl, rfl⟩ := e; exact h
  · simp only [Option.some.injEq, Prod.mk.injEq] at e; obtain ⟨rfl, rfl, rfl⟩ := e; exact h
  ·
   split at e
   ·
    split at e
    ·
     rename_i v hv
     split at e
     ·
      rename_i hd
      exact WD.val (pop_val hT hv) (by simpa using hd) (WD.drive hT e h)
     · cases e
    · simp only [Option.some.injEq, Prod.mk.injEq] at e; obtain ⟨rfl, rfl, rfl⟩ := e; exact h
   · simp only [Option.some.injEq, Prod.mk.injEq] at e; obtain ⟨rfl, rfl, rfl⟩ := e; exact h
theorem WD.step {T : Tab} (hT : TabOk P T) {el el' : List Kd} {l l' : List Oper} {ρ ρ' : Env} {Y' : List HL} (h1 : ddrive T n el l ρ = some (el', l', ρ')) (h2 : norm? Y = some Y') (h : WD P n R cx ops el' fl l' ρ' Y' K) :
  WD P n R cx ops el fl l ρ Y K := by
 rw [norm?_eq h2]
 exact WD.drive hT h1 h
def part? (is : List Nat) : Nat → List HL → Option (List HL × List HL)
 | _, [] => some ([], [])
 | i, c :: L => match part? is (i + 1) L with
  | none => none
  | some (A, B) => if hasNat is i then some (c :: A, B) else some (A, c :: B)
theorem part?_perm {is : List Nat} : ∀ {i : Nat} {L A B : List HL}, part? is i L = some (A, B) → L.flatten.Perm (A.flatten ++ B.flatten)
 | _, [], A, B, h => by simp only [part?, Option.some.injEq, Prod.mk.injEq] at h; obtain ⟨rfl, rfl⟩ := h; simp
 | i, c :: L, A, B, h => by
  simp only [part?] at h
  split at h
  · cases h
  ·
   rename_i A' B' hp
   have ih := part?_perm hp
   split at h
   ·
    simp only [Option.some.injEq, Prod.mk.injEq] at h
    obtain ⟨rfl, rfl⟩ := h
    simp only [List.flatten_cons, List.append_assoc]
    exact List.Perm.append_left c ih
   ·
    simp only [Option.some.injEq, Prod.mk.injEq] at h
    obtain ⟨rfl, rfl⟩ := h
    simp only [List.flatten_cons]
    refine (List.Perm.append_left c ih).trans ?_
    rw [← List.append_assoc, ← List.append_assoc]
    exact List.Perm.append_right _ List.perm_append_comm
theorem St.callP {w0 w w' : World} {S0 : List Nat} {L pre rest L' : List HL} {ro : HL} (hs : St w0 S0 R L w) (hp : L.flatten.Perm (pre.flatten ++ rest.flatten)) (hc : St w (ids pre.flatten) ro L' w') :
  St w0 S0 R (L' ++ rest) w' := by
 have h1 : St w0 S0 R (pre ++ rest) w := hs.perm (X := []) (by simpa using hp)
 have hc' : St w (ids ([pre.flatten] : List HL).flatten) ro L' w' := by simpa using hc
 have h2 : St w0 S0 R (pre.flatten :: rest) w := h1.perm (X := []) (by simp)
 exact h2.call (.cons .here .nil) hc'
theorem St.low {w0 w : World} {S0 : List Nat} {L A B : List HL} (hs : St w0 S0 R L w) (hp : L.flatten.Perm (A.flatten ++ B.flatten)) : St w (ids A.flatten) (B.flatten ++ R) A w := by
 have hi : (ids L.flatten).Perm (ids A.flatten ++ ids B.flatten) := by simpa [ids] using hp.map (·.1)
 obtain ⟨n1, n2, n3⟩ := List.nodup_append.1 (hi.nodup_iff.1 hs.nd)
 refine ⟨fun p hpm => hs.has p (hp.mem_iff.2 (by simp [hpm])), n1, fun _ _ _ => rfl, fun b hb => .inl hb, Nat.le_refl _, fun p hpm => ?_, ⟨rfl, rfl, rfl⟩⟩
 rcases List.mem_append.1 hpm with h1 | h1
 · exact ⟨hs.has p (hp.mem_iff.2 (by simp [h1])), fun hm => n3 _ hm _ (List.mem_map_of_mem (f := (·.1)) h1) rfl⟩
 ·
  obtain ⟨h2, h3⟩ := hs.ro p h1
  have hlt := (Array.getElem?_eq_some_iff.1 h2).1
  refine ⟨by rw [hs.fr _ hlt h3]; exact h2, fun hm => ?_⟩
  rcases hs.own _ (hi.mem_iff.2 (List.mem_append.2 (.inl hm))) with h | h
  · exact h3 h
  · omega
def floatsOf (T : Tab) : List Oper → List Kd → Option (List (Nat × Obj))
 | [], _ => some []
 | _ :: _, [] => some []
 | o :: l, k :: el => match k with
  | .b _ => floatsOf T l el
  | .f => match o with
   | ⟨some d, .alloc t, _, _, _, none⟩ => match look? T.zeros t with
    | some z => match cells? z with
     | some zs => match floatsOf T l el with
      | some r => some ((d, .cells zs.toArray t (0, 0)) :: r)
      | none => none
     | none => none
    | none => none
   | _ => none
def floatB (ops : Array Oper) (F : Nat → Bool) (N : Nat) : Bool :=
 (List.range N).all fun j => !F j || (List.range N).all fun i => decide (i = j) || (match ops[j]?, ops[i]? with | some oj, some oi => oj.apart ops oi && oi.apart ops oj | _, _ => false)
theorem floatsOf_spec {T : Tab} (hT : TabOk P T) : ∀ {l : List Oper} {el : List Kd} {fl : List (Nat × Obj)}, floatsOf T l el = some fl →
  (∀ j, j < l.length → (el.getD j (.b false)).fl = true → ∃ oi d o, l[j]? = some oi ∧ oi.dst = some d ∧ oi.guard = none ∧ (d, o) ∈ fl ∧ ∀ (a : Act) (w : World), ∃ m, (execOp a.eval oi).run P w = .ok (.value (.pointer (some ⟨w.heap.size, 0, none⟩))) ({ w with drawn := m }.alloc o)) ∧
  (∀ q ∈ fl, ∃ j, j < l.length ∧ (el.getD j (.b false)).fl = true ∧ ∃ oi, l[j]? = some oi ∧ oi.dst = some q.1)
 | [], el, fl, h => by
  simp only [floatsOf, Option.some.injEq] at h; subst h
  exact ⟨fun j hj => by simp at hj, fun q hq => by cases hq⟩
 | o :: l, [], fl, h => by
  simp only [floatsOf, Option.some.injEq] at h; subst h
  exact ⟨fun j hj hf => by simp [Kd.fl] at hf, fun q hq => by cases hq⟩
 | o :: l, k :: el, fl, h => by
  have lift : ∀ {fl' : List (Nat × Obj)}, floatsOf T l el = some fl' → (∀ q ∈ fl', q ∈ fl) →
    (∀ j, j + 1 < (o :: l).length → ((k :: el).getD (j + 1) (.b false)).fl = true → ∃ oi d o', (o :: l)[j + 1]? = some oi ∧ oi.dst = some d ∧ oi.guard = none ∧ (d, o') ∈ fl ∧ ∀ (a : Act) (w : World), ∃ m, (execOp a.eval oi).run P w = .ok (.value (.pointer (some ⟨w.heap.size, 0, none⟩))) ({ w with drawn := m }.alloc o')) ∧
    (∀ q ∈ fl', ∃ j, j < (o :: l).length ∧ ((k :: el).getD j (.b false)).fl = true ∧ ∃ oi, (o :: l)[j]? = some oi ∧ oi.dst = some q.1) := by
   intro fl' h' hsub
   obtain ⟨i1, i2⟩ := floatsOf_spec hT h'
   refine ⟨fun j hj hf => ?_, fun q hq => ?_⟩
   ·
    obtain ⟨oi, d, o', e1, e2, e3, e4, e5⟩ := i1 j (by simpa using hj) (by simpa using hf)
    exact ⟨oi, d, o', by simpa using e1, e2, e3, hsub _ e4, e5⟩
   ·
    obtain ⟨j, e1, e2, oi, e3, e4⟩ := i2 q hq
    exact ⟨j + 1, by simpa using e1, by simpa using e2, oi, by simpa using e3, e4⟩
  simp only [floatsOf] at h
  split at h
  ·
   obtain ⟨i1, i2⟩ := lift h (fun q hq => hq)
   refine ⟨fun j hj hf => ?_, i2⟩
   cases j with
   | zero => simp [Kd.fl] at hf
   | succ j => exact i1 j hj hf
  ·
   split at h
   ·
    rename_i d t ty pos af
    split at h
    ·
     rename_i z hz
     split at h
     ·
      rename_i zs hzs
      split at h
      ·
       rename_i r hr
       cases h
       obtain ⟨i1, i2⟩ := lift hr (fun q hq => List.mem_cons_of_mem _ hq)
       refine ⟨fun j hj hf => ?_, fun q hq => ?_⟩
       ·
        cases j with
        | zero =>
         refine ⟨_, d, _, rfl, rfl, rfl, List.mem_cons_self, fun a w => ⟨w.drawn, ?_⟩⟩
         have hz' := hT.zeros _ (look?_mem hz)
         unfold execOp
         show _ = Result.ok _ (w.alloc _)
         simp [Instr.alloc, hz' w, newVar, newRow, cells?_eq hzs]
        | succ j => exact i1 j hj hf
       ·
        rcases List.mem_cons.1 hq with rfl | hq
        · exact ⟨0, by simp, by simp [Kd.fl], _, rfl, rfl⟩
        · exact i2 q hq
      · cases h
     · cases h
    · cases h
   · cases h
theorem W.drawH {T : Tab} (hT : TabOk P T) {L X : List HL} {fl : List (Nat × Obj)} (N : Nat) (el : List Kd) (is : List Nat) {id : Nat} {l : List Oper} (hm : P.follows .mixedOrders = true) (hB : drawB l.toArray (fun j => (el.getD j (.b false)).act) N = true)
  (hfB : floatB l.toArray (fun j => (el.getD j (.b false)).fl) N = true) (hfl : floatsOf T (l.take N) el = some fl) (hnd : (fl.map (·.1)).Nodup) (hp : part? is 0 L = some (Y, X))
  (h : ∀ cx' : Cx, WD P n (X.flatten ++ R) cx' l.toArray el fl (l.take N) ρ Y (fun ρ' Y' => W P n R cx (.ops l.toArray (l.drop N) :: k) ρ' (Y' ++ X))) : W P n R cx (.code (.region id l.toArray true) :: k) ρ L := by
 refine ⟨fun a w hf hs => ?_⟩
 have hperm := part?_perm hp
 have hs1 := hs.drawn (w.drawn + 1)
 have hlow := hs1.low hperm
 simp only [mean]
 refine wp_region_any hm ?_
 let cx' : Cx := ⟨{ w with drawn := w.drawn + 1 }, ids Y.flatten, fun _ _ _ => False⟩
 have hN : N ≤ l.length := by
  simp only [drawB, Bool.and_eq_true, decide_eq_true_eq] at hB
  simpa using hB.1.1.1.2
 have hlen : (l.take N).length = N := by simp; omega
 have hS := (h cx').go (fun j => (el.getD j (.b false)).act) (fun j => (el.getD j (.b false)).fl) 0 a (fun j hj => by rw [hlen] at hj; simp [hj]) hf
 rw [hlen] at hS
 obtain ⟨f1, f2⟩ := floatsOf_spec hT hfl
 have hget : ∀ i, i < N → l.toArray[i]? = (l.take N)[i]? := fun i hi => by simp [hi]
 have hapart : ∀ i j, i < N → j < N → i ≠ j → (el.getD j (.b false)).fl = true → ∀ oi oj, l.toArray[i]? = some oi → l.toArray[j]? = some oj → oj.apart l.toArray oi = true ∧ oi.apart l.toArray oj = true := by
  intro i j hi hj hij hFj oi oj hoi hoj
  have h1 := List.all_eq_true.1 hfB j (by simpa using hj)
  simp only [hFj, Bool.not_true, Bool.false_or] at h1
  have h2 := List.all_eq_true.1 h1 i (by simpa using hi)
  simp only [Bool.or_eq_true, decide_eq_true_eq] at h2
  have h3 := h2.resolve_left hij
  rw [hoi, hoj] at h3
  simpa using h3
 have hflok : FlOk P l.toArray (fun j => (el.getD j (.b false)).fl) N fl := by
  refine ⟨hnd, fun i hi hFi => ?_, fun i hi hFi oi hoi q hq => ?_, fun i j hi hj hFi hFj oi oj hoi hoj hd => ?_, fun q hq => ?_⟩
  ·
   obtain ⟨oi, d, o, e1, e2, e3, e4, e5⟩ := f1 i (by rw [hlen]; exact hi) hFi
   exact ⟨oi, d, o, by rw [hget i hi]; exact e1, e2, e3, e4, e5⟩
  ·
   obtain ⟨j, e1, e2, oj, e3, e4⟩ := f2 q hq
   rw [hlen] at e1
   have hij : i ≠ j := by rintro rfl; simp only [hFi] at e2; cases e2
   obtain ⟨a1, a2⟩ := hapart i j hi e1 hij e2 oi oj hoi (by rw [hget j e1]; exact e3)
   obtain ⟨p1, p2, p3⟩ := Oper.apart_spec a1
   exact ⟨p1 _ e4, p2 _ e4⟩
  ·
   refine Classical.byContradiction fun hij => ?_
   obtain ⟨a1, a2⟩ := hapart i j hi hj hij hFj oi oj hoi hoj
   obtain ⟨oi', d, o, e1, e2, _⟩ := f1 i (by rw [hlen]; exact hi) hFi
   rw [← hget i hi, hoi] at e1
   cases e1
   obtain ⟨p1, p2, p3⟩ := Oper.apart_spec a1
   exact p2 d (by rw [← hd, e2]) e2
  ·
   obtain ⟨j, e1, e2, oj, e3, e4⟩ := f2 q hq
   rw [hlen] at e1
   exact ⟨j, e1, e2, oj, by rw [hget j e1]; exact e3, e4⟩
 have hno := putO_none (a := a) (fl := fl)
 have := any_of_swr (P := P) (R := X.flatten ++ R) (cx := cx') (ops := l.toArray) (E := fun j => (el.getD j (.b false)).act) (F := fun j => (el.getD j (.b false)).fl) (N := N) (Q := mean P n R cx k) (fl := fl)
  (Kf := KfOf n fl (fun ρ' Y' => W P n R cx (.ops l.toArray (l.drop N) :: k) ρ' (Y' ++ X))) hflok hB (by
   intro a' Y' β w' hKf hs'
   obtain ⟨ρ', hf', hW⟩ := hKf β
   have := hW.go _ w' hf' (hs1.callP hperm hs')
   simpa [mean] using this) N (List.range' 0 N) (Array.replicate l.toArray.size false) a Y (fun _ => none) { w with drawn := w.drawn + 1 } (by simp) ⟨by simp, List.pairwise_lt_range', by simp, ?_, ?_, ?_⟩ (by
    intro i hi _ _ _ _ _
    simp [hi]) (by rw [hno.2]; exact hlow.perm (X := []) (by simp)) hS
 ·
  rw [hno.1, show N + (l.toArray.size - N) = l.toArray.size from by simp; omega] at this
  exact this
 ·
  intro i hi
  have : i < l.toArray.size := by simp; omega
  rw [getD_tf (by simpa using this)]
  simp [hi]
 ·
  intro i _ hi
  rw [getD_tf (by simpa using hi)]
  simp
 ·
  intro i o ho hl
  have hi := (Array.getElem?_eq_some_iff.1 ho).1
  rw [getD_tf (by simpa using hi)] at hl
  simp at hl
theorem W.drawG {T : Tab} (hT : TabOk P T) {L X : List HL} {fl : List (Nat × Obj)} (N N2 : Nat) (el el2 : List Kd) (is : List Nat) {id : Nat} {l : List Oper} (hm : P.follows .mixedOrders = true) (h12 : N ≤ N2) (hel : el.length = N) (hB : drawB l.toArray (fun j => ((el ++ el2).getD j (.b false)).act) N2 = true) (htB : tailB l.toArray (fun j => ((el ++ el2).getD j (.b false)).act) (fun j => ((el ++ el2).getD j (.b false)).fl) N = true) (hno2 : ∀ k ∈ el2, k.fl = false)
  (hfB : floatB l.toArray (fun j => ((el ++ el2).getD j (.b false)).fl) N = true) (hfl : floatsOf T (l.take N) el = some fl) (hnd : (fl.map (·.1)).Nodup) (hp : part? is 0 L = some (Y, X))
  (h : ∀ cx' : Cx, WD P n (X.flatten ++ R) cx' l.toArray el fl (l.take N) ρ Y (fun ρ' Y' => WD P n (X.flatten ++ R) cx' l.toArray el2 [] ((l.drop N).take (N2 - N)) ρ' Y' (fun ρ' Y' => W P n R cx (.ops l.toArray (l.drop N2) :: k) ρ' (Y' ++ X)))) : W P n R cx (.code (.region id l.toArray true) :: k) ρ L := by
 refine ⟨fun a w hf hs => ?_⟩
 have hperm := part?_perm hp
 have hs1 := hs.drawn (w.drawn + 1)
 have hlow := hs1.low hperm
 simp only [mean]
 refine wp_region_any hm ?_
 let cx' : Cx := ⟨{ w with drawn := w.drawn + 1 }, ids Y.flatten, fun _ _ _ => False⟩
 have hN2 : N2 ≤ l.length := by
  simp only [drawB, Bool.and_eq_true, decide_eq_true_eq] at hB
  simpa using hB.1.1.1.2
 have hN : N ≤ l.length := by omega
 have hlo : ∀ j, j < N → (el ++ el2).getD j (.b false) = el.getD j (.b false) := fun j hj => by
  rw [List.getD_eq_getElem?_getD, List.getD_eq_getElem?_getD, List.getElem?_append_left (by omega)]
 have hhi : ∀ j, (el ++ el2).getD (N + j) (.b false) = el2.getD j (.b false) := fun j => by
  rw [List.getD_eq_getElem?_getD, List.getD_eq_getElem?_getD, List.getElem?_append_right (by omega), hel, Nat.add_sub_cancel_left]
 have hlen : (l.take N).length = N := by simp; omega
 have hS := (h cx').go (fun j => ((el ++ el2).getD j (.b false)).act) (fun j => ((el ++ el2).getD j (.b false)).fl) 0 a (fun j hj => by rw [hlen] at hj; rw [Nat.zero_add]; dsimp only; rw [hlo j hj]; simp [hj]) hf
 rw [hlen] at hS
 obtain ⟨f1, f2⟩ := floatsOf_spec hT hfl
 have hget : ∀ i, i < N → l.toArray[i]? = (l.take N)[i]? := fun i hi => by simp [hi]
 have hapart : ∀ i j, i < N → j < N → i ≠ j → ((el ++ el2).getD j (.b false)).fl = true → ∀ oi oj, l.toArray[i]? = some oi → l.toArray[j]? = some oj → oj.apart l.toArray oi = true ∧ oi.apart l.toArray oj = true := by
  intro i j hi hj hij hFj oi oj hoi hoj
  have h1 := List.all_eq_true.1 hfB j (by simpa using hj)
  simp only [hFj, Bool.not_true, Bool.false_or] at h1
  have h2 := List.all_eq_true.1 h1 i (by simpa using hi)
  simp only [Bool.or_eq_true, decide_eq_true_eq] at h2
  have h3 := h2.resolve_left hij
  rw [hoi, hoj] at h3
  simpa using h3
 have hflok : FlOk P l.toArray (fun j => ((el ++ el2).getD j (.b false)).fl) N fl := by
  refine ⟨hnd, fun i hi hFi => ?_, fun i hi hFi oi hoi q hq => ?_, fun i j hi hj hFi hFj oi oj hoi hoj hd => ?_, fun q hq => ?_⟩
  ·
   obtain ⟨oi, d, o, e1, e2, e3, e4, e5⟩ := f1 i (by rw [hlen]; exact hi) (by rw [← hlo i hi]; exact hFi)
   exact ⟨oi, d, o, by rw [hget i hi]; exact e1, e2, e3, e4, e5⟩
  ·
   obtain ⟨j, e1, e2, oj, e3, e4⟩ := f2 q hq
   rw [hlen] at e1
   rw [← hlo j e1] at e2
   have hij : i ≠ j := by rintro rfl; simp only [hFi] at e2; cases e2
   obtain ⟨a1, a2⟩ := hapart i j hi e1 hij e2 oi oj hoi (by rw [hget j e1]; exact e3)
   obtain ⟨p1, p2, p3⟩ := Oper.apart_spec a1
   exact ⟨p1 _ e4, p2 _ e4⟩
  ·
   refine Classical.byContradiction fun hij => ?_
   obtain ⟨a1, a2⟩ := hapart i j hi hj hij hFj oi oj hoi hoj
   obtain ⟨oi', d, o, e1, e2, _⟩ := f1 i (by rw [hlen]; exact hi) (by rw [← hlo i hi]; exact hFi)
   rw [← hget i hi, hoi] at e1
   cases e1
   obtain ⟨p1, p2, p3⟩ := Oper.apart_spec a1
   exact p2 d (by rw [← hd, e2]) e2
  ·
   obtain ⟨j, e1, e2, oj, e3, e4⟩ := f2 q hq
   rw [hlen] at e1
   exact ⟨j, e1, by rw [hlo j e1]; exact e2, oj, by rw [hget j e1]; exact e3, e4⟩
 have hno := putO_none (a := a) (fl := fl)
 have := any_of_swrG (P := P) (R := X.flatten ++ R) (cx := cx') (ops := l.toArray) (E := fun j => ((el ++ el2).getD j (.b false)).act) (F := fun j => ((el ++ el2).getD j (.b false)).fl) (N1 := N) (N2 := N2) (Q := mean P n R cx k) (fl := fl)
  (Kf := KfOf n fl (fun ρ' Y' => WD P n (X.flatten ++ R) cx' l.toArray el2 [] ((l.drop N).take (N2 - N)) ρ' Y' (fun ρ' Y' => W P n R cx (.ops l.toArray (l.drop N2) :: k) ρ' (Y' ++ X))))
  (Kf2 := KfOf n [] (fun ρ' Y' => W P n R cx (.ops l.toArray (l.drop N2) :: k) ρ' (Y' ++ X))) hflok h12 hB htB (by
   intro a' Y' β hKf
   obtain ⟨ρ', hf', hW⟩ := hKf β
   have hl2 : ((l.drop N).take (N2 - N)).length = N2 - N := by simp; omega
   have := hW.go (fun j => ((el ++ el2).getD j (.b false)).act) (fun _ => false) N _ (fun j hj => by
    rw [hl2] at hj
    have hnf : (el2.getD j (.b false)).fl = false := by
     rw [List.getD_eq_getElem?_getD]
     cases hx : el2[j]? with
     | none => rfl
     | some kd => exact hno2 _ (List.mem_of_getElem? hx)
    dsimp only
    rw [hhi j, hnf]
    refine ⟨?_, rfl, rfl⟩
    rw [List.getElem?_take, if_pos hj, List.getElem?_drop]
    simp) hf'
   rw [hl2] at this
   exact this) (by
   intro a' Y' w' hKf hs'
   obtain ⟨ρ', hf', hW⟩ := hKf (fun _ => 0)
   have := hW.go _ w' hf' (hs1.callP hperm hs')
   simpa [mean, putT] using this) N (List.range' 0 N) (Array.replicate l.toArray.size false) a Y (fun _ => none) { w with drawn := w.drawn + 1 } (by simp) ⟨by simp, List.pairwise_lt_range', by simp, ?_, ?_, ?_⟩ (by
    intro i hi _ _ _ _ _
    simp [hi]) (by rw [hno.2]; exact hlow.perm (X := []) (by simp)) hS
 ·
  rw [hno.1, show N + (l.toArray.size - N) = l.toArray.size from by simp; omega] at this
  exact this
 ·
  intro i hi
  have : i < l.toArray.size := by simp; omega
  rw [getD_tf (by simpa using this)]
  simp [hi]
 ·
  intro i _ hi
  rw [getD_tf (by simpa using hi)]
  simp
 ·
  intro i o ho hl
  have hi := (Array.getElem?_eq_some_iff.1 ho).1
  rw [getD_tf (by simpa using hi)] at hl
  simp at hl
end
end Go.Sl
