/-
  The rules for memory, calls, branches, loops and a function's end, on top of the frames and chunks; over any program.
-/
import Derived.Test.YtpimbaphenignaaSl
namespace Go.Sl
open Go
section
variable {P : Program} {n : Nat} {R : HL} {cx : Cx} {k : List Kont} {ρ : Env} {L : List HL}

/-! ### Where a block is -/
def At (R : HL) (L : List HL) (b : Nat) (o : Obj) : Prop := (b, o) ∈ L.flatten ∨ (b, o) ∈ R
theorem At.heap {b : Nat} {o : Obj} (h : At R L b o) {w0 : World} {S0 : List Nat} {w : World} (hs : St w0 S0 R L w) : w.heap[b]? = some o := by
  rcases h with h | h
  · exact hs.has _ h
  · obtain ⟨h1, h2⟩ := hs.ro _ h
    rw [hs.fr b (Array.getElem?_eq_some_iff.1 h1).1 h2]
    exact h1
theorem at_own {b : Nat} {o : Obj} (i : Nat) (h : L[i]? = some [(b, o)]) : At R L b o :=
  .inl (List.mem_flatten.2 ⟨_, List.mem_of_getElem? h, by simp⟩)
theorem at_in {b : Nat} {o : Obj} {H : HL} (i : Nat) (h : L[i]? = some H) (h2 : (b, o) ∈ H) : At R L b o :=
  .inl (List.mem_flatten.2 ⟨_, List.mem_of_getElem? h, h2⟩)
theorem at_ro {b : Nat} {o : Obj} (i : Nat) (h : R[i]? = some (b, o)) : At R L b o := .inr (List.mem_of_getElem? h)

/-! ### Pieces of lists, worked out -/
def take? : List Value → Nat → Option (List Value)
  | _, 0 => some []
  | [], _ + 1 => none
  | x :: l, m + 1 => match take? l m with
    | some r => some (x :: r)
    | none => none
def seg? : List Value → Nat → Nat → Option (List Value)
  | l, 0, m => take? l m
  | [], _ + 1, _ => none
  | _ :: l, o + 1, m => seg? l o m
def splice? : List Value → Nat → List Value → Option (List Value)
  | l, 0, [] => some l
  | [], 0, _ :: _ => none
  | _ :: l, 0, v :: vs => match splice? l 0 vs with
    | some r => some (v :: r)
    | none => none
  | [], _ + 1, _ => none
  | x :: l, o + 1, vs => match splice? l o vs with
    | some r => some (x :: r)
    | none => none
theorem take?_eq : ∀ (l : List Value) (m : Nat) {vs : List Value}, take? l m = some vs → m ≤ l.length ∧ vs = l.take m
  | l, 0, vs, h => by cases l <;> (simp only [take?, Option.some.injEq] at h; subst h; simp)
  | [], _ + 1, _, h => by cases h
  | x :: l, m + 1, vs, h => by
    simp only [take?] at h
    split at h
    · rename_i r hr
      cases h
      obtain ⟨h1, h2⟩ := take?_eq l m hr
      simp [h1, h2]
    · cases h
theorem seg?_eq : ∀ (l : List Value) (o m : Nat) {vs : List Value}, seg? l o m = some vs → o + m ≤ l.length ∧ vs = (l.drop o).take m
  | l, 0, m, vs, h => by
    have h' : take? l m = some vs := by cases l <;> exact h
    simpa using take?_eq l m h'
  | [], _ + 1, _, _, h => by cases h
  | x :: l, o + 1, m, vs, h => by
    have := seg?_eq l o m (vs := vs) (by simpa [seg?] using h)
    simp only [List.length_cons, List.drop_succ_cons]
    exact ⟨by omega, this.2⟩
theorem splice?_eq : ∀ (l : List Value) (o : Nat) (vs : List Value) {l' : List Value}, splice? l o vs = some l' → o + vs.length ≤ l.length ∧ l' = l.take o ++ vs ++ l.drop (o + vs.length)
  | l, 0, [], l', h => by
    have : l = l' := by cases l <;> simpa [splice?] using h
    subst this
    simp
  | [], 0, _ :: _, _, h => by cases h
  | x :: l, 0, v :: vs, l', h => by
    simp only [splice?] at h
    split at h
    · rename_i r hr
      cases h
      obtain ⟨h1, h2⟩ := splice?_eq l 0 vs hr
      subst h2
      simp at h1 ⊢
      exact h1
    · cases h
  | [], _ + 1, _, _, h => by cases h
  | x :: l, o + 1, vs, l', h => by
    simp only [splice?] at h
    split at h
    · rename_i r hr
      cases h
      obtain ⟨h1, h2⟩ := splice?_eq l o vs hr
      subst h2
      simp only [List.length_cons, List.take_succ_cons, List.cons_append]
      refine ⟨by omega, ?_⟩
      rw [show o + 1 + vs.length = (o + vs.length) + 1 from by omega, List.drop_succ_cons]
    · cases h
def cells? : Value → Option (List Value)
  | .agg ⟨l⟩ => some l
  | .tuple _ => none
  | v => some [v]
theorem cells?_eq {v : Value} {l : List Value} (h : cells? v = some l) : v.cells = l.toArray := by
  cases v <;> simp only [cells?, Option.some.injEq, reduceCtorEq] at h <;> subst h <;> rfl
def allOne : List Value → Bool
  | [] => true
  | v :: r => match v with
    | .agg _ => false
    | .tuple _ => false
    | _ => allOne r
theorem allOne_mem {l : List Value} (h : allOne l = true) : ∀ v ∈ l, v.oneCell' = true := by
  induction l with
  | nil => simp
  | cons v r ih =>
    intro u hu
    rcases List.mem_cons.1 hu with rfl | hu
    · cases u <;> simp_all [allOne, Value.oneCell']
    · refine ih ?_ u hu
      cases v <;> simp_all [allOne]
theorem allOne_of {l : List Value} (h : ∀ v ∈ l, v.oneCell' = true) : allOne l = true := by
  induction l with
  | nil => rfl
  | cons v r ih =>
    have hv := h v (by simp)
    have hr := ih (fun u hu => h u (by simp [hu]))
    cases v <;> simp_all [allOne, Value.oneCell']

/-! ### Reading -/
theorem Addr.add_none' (b o m : Nat) : (⟨b, o, none⟩ : Addr).add m = ⟨b, o + m, none⟩ := by
  unfold Addr.add; split <;> simp_all

theorem OpVal.load1 {t ty : TypeId} {x : Operand} {b off : Nat} {l : List Value} {e : TypeId} {fr : Nat × Nat} {v : Value}
    (ht : IsAgg P t false) (hx : ev? ρ x = some (.pointer (some ⟨b, off, none⟩))) (hb : At R L b (.cells l.toArray e fr)) (hv : l[off]? = some v) :
    OpVal P n R cx (.load t x) ty ρ L v := by
  refine ⟨fun oo a w ho hty hf hs => ?_⟩
  have hc : w.cell? ⟨b, off, none⟩ = some v := by rw [cell_of_row w b off _ e fr (hb.heap hs)]; simpa using hv
  unfold execOp; rw [ho]
  simp [hf.ev hx, Instr.loadAt, Instr.sureAddr, loadVar, ht w, hc]

theorem run_loadCells_seg {w : World} {b off m : Nat} {l vs : List Value} {e : TypeId} {fr : Nat × Nat} (hg : w.heap[b]? = some (.cells l.toArray e fr))
    (hv : seg? l off m = some vs) : (loadCells ⟨b, off, none⟩ m).run P w = .ok vs.toArray w := by
  obtain ⟨h1, h2⟩ := seg?_eq l off m hv
  have hl : vs.length = m := by rw [h2]; simp; omega
  rw [← hl]
  refine run_loadCells_list (P := P) w ⟨b, off, none⟩ vs (fun j v hj => ?_)
  rw [Addr.add_none', cell_of_row w b (off + j) _ e fr hg]
  have hjm : j < m := by rw [← hl]; exact (List.getElem?_eq_some_iff.1 hj).1
  rw [h2, List.getElem?_take, if_pos hjm, List.getElem?_drop] at hj
  simpa using hj

theorem OpVal.loadN {t ty : TypeId} {x : Operand} {b off m : Nat} {l : List Value} {e : TypeId} {fr : Nat × Nat} {vs : List Value}
    (ht : IsAgg P t true) (hz : SizeOf P t m) (hx : ev? ρ x = some (.pointer (some ⟨b, off, none⟩))) (hb : At R L b (.cells l.toArray e fr))
    (hv : seg? l off m = some vs) : OpVal P n R cx (.load t x) ty ρ L (.agg vs.toArray) := by
  refine ⟨fun oo a w ho hty hf hs => ?_⟩
  have hl := run_loadCells_seg (P := P) (hb.heap hs) hv
  unfold execOp; rw [ho]
  simp [hf.ev hx, Instr.loadAt, Instr.sureAddr, loadVar, ht w, hz w, hl]

theorem OpVal.arith {op : BinOp} {t t' ty : TypeId} {x y : Operand} {kk : IntKind} {i j r : Int} (hx : ev? ρ x = some (.int kk i)) (hy : ev? ρ y = some (.int kk j))
    (hr : (op = .add ∧ kk.wrap (i + j) = r) ∨ (op = .sub ∧ kk.wrap (i - j) = r) ∨ (op = .mul ∧ kk.wrap (i * j) = r)) : OpVal P n R cx (.binOp op t x y t') ty ρ L (.int kk r) := by
  refine ⟨fun oo a w ho hty hf hs => ?_⟩
  unfold execOp; rw [ho]
  rcases hr with ⟨rfl, rfl⟩ | ⟨rfl, rfl⟩ | ⟨rfl, rfl⟩ <;> simp [hf.ev hx, hf.ev hy, eqGuard, binOp, Op.intArith]
theorem OpVal.add {t t' ty : TypeId} {x y : Operand} {kk : IntKind} {i j r : Int} (hx : ev? ρ x = some (.int kk i)) (hy : ev? ρ y = some (.int kk j)) (hr : kk.wrap (i + j) = r) :
    OpVal P n R cx (.binOp .add t x y t') ty ρ L (.int kk r) := .arith hx hy (.inl ⟨rfl, hr⟩)
theorem OpVal.sub {t t' ty : TypeId} {x y : Operand} {kk : IntKind} {i j r : Int} (hx : ev? ρ x = some (.int kk i)) (hy : ev? ρ y = some (.int kk j)) (hr : kk.wrap (i - j) = r) :
    OpVal P n R cx (.binOp .sub t x y t') ty ρ L (.int kk r) := .arith hx hy (.inr (.inl ⟨rfl, hr⟩))
theorem OpVal.mul {t t' ty : TypeId} {x y : Operand} {kk : IntKind} {i j r : Int} (hx : ev? ρ x = some (.int kk i)) (hy : ev? ρ y = some (.int kk j)) (hr : kk.wrap (i * j) = r) :
    OpVal P n R cx (.binOp .mul t x y t') ty ρ L (.int kk r) := .arith hx hy (.inr (.inr ⟨rfl, hr⟩))
theorem OpVal.quo {t t' ty : TypeId} {x y : Operand} {kk : IntKind} {i j r : Int} (hx : ev? ρ x = some (.int kk i)) (hy : ev? ρ y = some (.int kk j)) (h0 : j ≠ 0) (hr : kk.wrap (i.tdiv j) = r) :
    OpVal P n R cx (.binOp .quo t x y t') ty ρ L (.int kk r) := by
  refine ⟨fun oo a w ho hty hf hs => ?_⟩
  unfold execOp; rw [ho]; subst hr
  simp [hf.ev hx, hf.ev hy, eqGuard, binOp, Op.intDiv, h0]
theorem OpVal.rem {t t' ty : TypeId} {x y : Operand} {kk : IntKind} {i j r : Int} (hx : ev? ρ x = some (.int kk i)) (hy : ev? ρ y = some (.int kk j)) (h0 : j ≠ 0) (hr : i.tmod j = r) :
    OpVal P n R cx (.binOp .rem t x y t') ty ρ L (.int kk r) := by
  refine ⟨fun oo a w ho hty hf hs => ?_⟩
  unfold execOp; rw [ho]; subst hr
  simp [hf.ev hx, hf.ev hy, eqGuard, binOp, Op.intDiv, h0]
theorem OpVal.neg {t ty : TypeId} {x : Operand} {kk : IntKind} {i r : Int} (hx : ev? ρ x = some (.int kk i)) (hr : kk.wrap (-i) = r) :
    OpVal P n R cx (.unOp .neg t x) ty ρ L (.int kk r) := by
  refine ⟨fun oo a w ho hty hf hs => ?_⟩
  unfold execOp; rw [ho]; subst hr
  simp [hf.ev hx, Op.unary, Op.intArith]
theorem OpVal.pickT {c x y : Operand} {ty : TypeId} {b : Bool} {v : Value} (hc : ev? ρ c = some (.bool b)) (hb : b = true) (hx : ev? ρ x = some v) :
    OpVal P n R cx (.pick c x y) ty ρ L v := by
  refine ⟨fun oo a w ho hty hf hs => ?_⟩
  unfold execOp; rw [ho]; subst hb
  simp [hf.ev hc, hf.ev hx, asBool]
theorem OpVal.pickF {c x y : Operand} {ty : TypeId} {b : Bool} {v : Value} (hc : ev? ρ c = some (.bool b)) (hb : b = false) (hy : ev? ρ y = some v) :
    OpVal P n R cx (.pick c x y) ty ρ L v := by
  refine ⟨fun oo a w ho hty hf hs => ?_⟩
  unfold execOp; rw [ho]; subst hb
  simp [hf.ev hc, hf.ev hy, asBool]
theorem OpVal.indexSl {t e ty : TypeId} {x y : Operand} {b off len cap m j : Nat} {kk : IntKind} {i : Int}
    (hx : ev? ρ x = some (.slice (some ⟨b, off, none⟩) len cap)) (hy : ev? ρ y = some (.int kk i)) (ht : P.underlying t = some (.slice e)) (hz : SizeOf P e m)
    (hi : i = (j : Int)) (hj : j < len) : OpVal P n R cx (.indexAddr t x y) ty ρ L (.pointer (some ⟨b, off + j * m, none⟩)) := by
  refine ⟨fun oo a w ho hty hf hs => ?_⟩
  unfold execOp; rw [ho]; subst hi
  simp [hf.ev hx, hf.ev hy, Instr.indexAt, asIntOf, underlying, ht, hz w, hj, Addr.add_none']
theorem OpVal.indexAr {t e ty : TypeId} {x y : Operand} {b off len m j : Nat} {kk : IntKind} {i : Int}
    (hx : ev? ρ x = some (.pointer (some ⟨b, off, none⟩))) (hy : ev? ρ y = some (.int kk i)) (ht : P.underlying t = some (.array len e)) (hz : SizeOf P e m)
    (hi : i = (j : Int)) (hj : j < len) : OpVal P n R cx (.indexAddr t x y) ty ρ L (.pointer (some ⟨b, off + j * m, none⟩)) := by
  refine ⟨fun oo a w ho hty hf hs => ?_⟩
  unfold execOp; rw [ho]; subst hi
  simp [hf.ev hx, hf.ev hy, Instr.indexAt, asIntOf, underlying, ht, hz w, hj, Addr.add_none', Instr.sureAddr]
/-- An element of an array's value, each of one cell. -/
theorem OpVal.index1 {t e ty : TypeId} {x y : Operand} {l : List Value} {len j : Nat} {kk : IntKind} {i : Int} {v : Value}
    (hx : ev? ρ x = some (.agg l.toArray)) (hy : ev? ρ y = some (.int kk i)) (ht : P.underlying t = some (.array len e)) (ha : IsAgg P e false) (hz : SizeOf P e 1)
    (hi : i = (j : Int)) (hj : j < len) (hv : l[j]? = some v) : OpVal P n R cx (.index t x y) ty ρ L v := by
  refine ⟨fun oo a w ho hty hf hs => ?_⟩
  unfold execOp; rw [ho]; subst hi
  simp [hf.ev hx, hf.ev hy, Instr.index, asIntOf, underlying, ht, hz w, hj, part, ha w, hv]
/-- A field of a struct's value. -/
theorem OpVal.fieldN {t ty : TypeId} {x : Operand} {f m o : Nat} {l vs : List Value} {fs : Array Field} {fd : Field}
    (hx : ev? ρ x = some (.agg l.toArray)) (ht : P.underlying t = some (.struct fs)) (hfd : fs[f]? = some fd) (ho' : fd.offset = o) (ha : IsAgg P fd.type true) (hz : SizeOf P fd.type m)
    (hv : seg? l o m = some vs) : OpVal P n R cx (.field t x f) ty ρ L (.agg vs.toArray) := by
  refine ⟨fun oo a w ho hty hf hs => ?_⟩
  obtain ⟨h1, h2⟩ := seg?_eq l o m hv
  unfold execOp; rw [ho]; subst ho'
  simp [hf.ev hx, Instr.field, underlying, ht, hfd, asAgg, part, ha w, hz w]
  rw [h2]
theorem OpVal.field1 {t ty : TypeId} {x : Operand} {f o : Nat} {l : List Value} {v : Value} {fs : Array Field} {fd : Field}
    (hx : ev? ρ x = some (.agg l.toArray)) (ht : P.underlying t = some (.struct fs)) (hfd : fs[f]? = some fd) (ho' : fd.offset = o) (ha : IsAgg P fd.type false)
    (hv : l[o]? = some v) : OpVal P n R cx (.field t x f) ty ρ L v := by
  refine ⟨fun oo a w ho hty hf hs => ?_⟩
  unfold execOp; rw [ho]; subst ho'
  simp [hf.ev hx, Instr.field, underlying, ht, hfd, asAgg, part, ha w, hv]
/-- Two values of one type, compared by the model's '==': by a fact on the run. -/
theorem OpVal.eqOf {op : BinOp} {t t' ty : TypeId} {x y : Operand} {u v r : Value} (hx : ev? ρ x = some u) (hy : ev? ρ y = some v)
    (hr : ∀ w, (do eqGuard op t x y u v; binOp op t u v : Sem Value).run P w = .ok r w) : OpVal P n R cx (.binOp op t x y t') ty ρ L r := by
  refine ⟨fun oo a w ho hty hf hs => ?_⟩
  unfold execOp; rw [ho]
  simp only [hf.ev hx, hf.ev hy]
  rw [Sem.run_bind, hr w]
  rfl
theorem OpVal.buildOf {t ty : TypeId} {parts : Array (Nat × Operand)} {vs : List (Nat × Value)} {r : Value}
    (hp : ∀ a, Fits n ρ a → (parts.map fun (i, x) => (i, a.eval x)) = vs.toArray) (hr : ∀ w, (Instr.build t vs.toArray).run P w = .ok r w) : OpVal P n R cx (.build t parts) ty ρ L r := by
  refine ⟨fun oo a w ho hty hf hs => ?_⟩
  unfold execOp; rw [ho]
  have := hp a hf
  simp only [this]
  rw [Sem.run_bind, hr w]
  rfl
theorem OpVal.convInt {s d ty : TypeId} {x : Operand} {k0 kk : IntKind} {sd : TypeDesc} {i r : Int} (hx : ev? ρ x = some (.int k0 i)) (hs : P.underlying s = some sd) (hd : P.underlying d = some (.int kk)) (hr : kk.wrap i = r) :
    OpVal P n R cx (.convert s d x) ty ρ L (.int kk r) := by
  refine ⟨fun oo a w ho hty hf hs' => ?_⟩
  unfold execOp; rw [ho]; subst hr
  simp [hf.ev hx, convert, underlying, hs, hd, Conv.intToInt]

/-! ### The same, by the table -/
def ldv? (T : Tab) (t : Nat) (l : List Value) (off : Nat) : Option Value :=
  match look? T.tys t with
  | some (false, _) => l[off]?
  | some (true, m) => match seg? l off m with
    | some vs => some (.agg ⟨vs⟩)
    | none => none
  | none => none
theorem OpVal.load {T : Tab} (hT : TabOk P T) {t ty : TypeId} {x : Operand} {b off : Nat} {l : List Value} {e : TypeId} {fr : Nat × Nat} {v : Value}
    (hx : ev? ρ x = some (.pointer (some ⟨b, off, none⟩))) (hb : At R L b (.cells l.toArray e fr)) (hv : ldv? T t l off = some v) :
    OpVal P n R cx (.load t x) ty ρ L v := by
  unfold ldv? at hv
  split at hv
  · rename_i m hm
    exact OpVal.load1 (hT.tys _ (look?_mem hm)).1 hx hb hv
  · rename_i m hm
    split at hv
    · rename_i vs hvs
      cases hv
      exact OpVal.loadN (hT.tys _ (look?_mem hm)).1 (hT.tys _ (look?_mem hm)).2 hx hb hvs
    · cases hv
  · cases hv
def natOf? : Int → Option Nat
  | .ofNat j => some j
  | .negSucc _ => none
theorem natOf?_eq {i : Int} {j : Nat} (h : natOf? i = some j) : i = (j : Int) := by
  cases i with
  | ofNat m => simp only [natOf?, Option.some.injEq] at h; subst h; rfl
  | negSucc m => cases h
theorem natOf_nonneg {i : Int} (h : 0 ≤ i) : natOf? i = some i.toNat := by
  cases i with
  | ofNat m => rfl
  | negSucc m => omega
theorem OpVal.ixSl {T : Tab} (hT : TabOk P T) {t e ty : TypeId} {x y : Operand} {b off len cap m j : Nat} {ag : Bool} {kk : IntKind} {i : Int}
    (hx : ev? ρ x = some (.slice (some ⟨b, off, none⟩) len cap)) (hy : ev? ρ y = some (.int kk i)) (ht : look? T.sls t = some e) (hz : look? T.tys e = some (ag, m))
    (hi : natOf? i = some j) (hj : j < len) : OpVal P n R cx (.indexAddr t x y) ty ρ L (.pointer (some ⟨b, off + j * m, none⟩)) :=
  OpVal.indexSl hx hy (hT.sls _ (look?_mem ht)) (hT.tys _ (look?_mem hz)).2 (natOf?_eq hi) hj
theorem OpVal.ixAr {T : Tab} (hT : TabOk P T) {t e ty : TypeId} {x y : Operand} {b off len m j : Nat} {ag : Bool} {kk : IntKind} {i : Int}
    (hx : ev? ρ x = some (.pointer (some ⟨b, off, none⟩))) (hy : ev? ρ y = some (.int kk i)) (ht : look? T.ars t = some (len, e)) (hz : look? T.tys e = some (ag, m))
    (hi : natOf? i = some j) (hj : j < len) : OpVal P n R cx (.indexAddr t x y) ty ρ L (.pointer (some ⟨b, off + j * m, none⟩)) :=
  OpVal.indexAr hx hy (hT.ars _ (look?_mem ht)) (hT.tys _ (look?_mem hz)).2 (natOf?_eq hi) hj
/-- An element of an array's value: of one cell. -/
theorem OpVal.ix1 {T : Tab} (hT : TabOk P T) {t e ty : TypeId} {x y : Operand} {l : List Value} {len j : Nat} {kk : IntKind} {i : Int} {v : Value}
    (hx : ev? ρ x = some (.agg l.toArray)) (hy : ev? ρ y = some (.int kk i)) (ht : look? T.ars t = some (len, e)) (hz : look? T.tys e = some (false, 1))
    (hi : natOf? i = some j) (hj : j < len) (hv : l[j]? = some v) : OpVal P n R cx (.index t x y) ty ρ L v :=
  OpVal.index1 hx hy (hT.ars _ (look?_mem ht)) (hT.tys _ (look?_mem hz)).1 (hT.tys _ (look?_mem hz)).2 (natOf?_eq hi) hj hv
theorem run_equal_of {t : TypeId} {x y : Value} {b : Bool} {w : World} (h : ∀ d, (Op.equalIn (d + 1) t x y).run P w = .ok b w) : (Op.equal t x y).run P w = .ok b w := h 9999
theorem OpVal.eqBool {T : Tab} (hT : TabOk P T) {t t' ty : TypeId} {x y : Operand} {a b : Bool} (hx : ev? ρ x = some (.bool a)) (hy : ev? ρ y = some (.bool b)) (ht : hasNat T.bools t = true) :
    OpVal P n R cx (.binOp .eql t x y t') ty ρ L (.bool (a == b)) :=
  .eqOf hx hy fun w => by
    have := hT.bools _ (hasNat_mem ht)
    have h := run_equal_of (P := P) (t := t) (x := .bool a) (y := .bool b) (b := a == b) (w := w) (fun d => by simp [Op.equalIn, underlying, this])
    simp [eqGuard, binOp, h]
theorem OpVal.neBool {T : Tab} (hT : TabOk P T) {t t' ty : TypeId} {x y : Operand} {a b : Bool} (hx : ev? ρ x = some (.bool a)) (hy : ev? ρ y = some (.bool b)) (ht : hasNat T.bools t = true) :
    OpVal P n R cx (.binOp .neq t x y t') ty ρ L (.bool (!(a == b))) :=
  .eqOf hx hy fun w => by
    have := hT.bools _ (hasNat_mem ht)
    have h := run_equal_of (P := P) (t := t) (x := .bool a) (y := .bool b) (b := a == b) (w := w) (fun d => by simp [Op.equalIn, underlying, this])
    simp [eqGuard, binOp, h]
theorem OpVal.eqStr {t t' ty : TypeId} {x y : Operand} {a b : ByteArray} (hx : ev? ρ x = some (.string a)) (hy : ev? ρ y = some (.string b)) :
    OpVal P n R cx (.binOp .eql t x y t') ty ρ L (.bool (a.toList == b.toList)) :=
  .eqOf hx hy fun w => by simp [eqGuard, binOp, Op.stringOp]
theorem OpVal.neStr {t t' ty : TypeId} {x y : Operand} {a b : ByteArray} (hx : ev? ρ x = some (.string a)) (hy : ev? ρ y = some (.string b)) :
    OpVal P n R cx (.binOp .neq t x y t') ty ρ L (.bool (!(a.toList == b.toList))) :=
  .eqOf hx hy fun w => by simp [eqGuard, binOp, Op.stringOp]
/-- A pointer against nil. -/
theorem OpVal.eqNil {T : Tab} (hT : TabOk P T) {t t' ty : TypeId} {x y : Operand} {a : Option Addr} {e : Nat} (hx : ev? ρ x = some (.pointer a)) (hy : ev? ρ y = some (.pointer none)) (ht : look? T.ptrs t = some e) :
    OpVal P n R cx (.binOp .eql t x y t') ty ρ L (.bool a.isNone) :=
  .eqOf hx hy fun w => by
    have := hT.ptrs _ (look?_mem ht)
    have h := run_equal_of (P := P) (t := t) (x := .pointer a) (y := .pointer none) (b := a.isNone) (w := w) (fun d => by cases a <;> simp [Op.equalIn, underlying, this])
    simp [eqGuard, binOp, h]
theorem OpVal.neNil {T : Tab} (hT : TabOk P T) {t t' ty : TypeId} {x y : Operand} {a : Option Addr} {e : Nat} (hx : ev? ρ x = some (.pointer a)) (hy : ev? ρ y = some (.pointer none)) (ht : look? T.ptrs t = some e) :
    OpVal P n R cx (.binOp .neq t x y t') ty ρ L (.bool (!a.isNone)) :=
  .eqOf hx hy fun w => by
    have := hT.ptrs _ (look?_mem ht)
    have h := run_equal_of (P := P) (t := t) (x := .pointer a) (y := .pointer none) (b := a.isNone) (w := w) (fun d => by cases a <;> simp [Op.equalIn, underlying, this])
    simp [eqGuard, binOp, h]
theorem OpVal.eqNilSl {T : Tab} (hT : TabOk P T) {t t' ty : TypeId} {x y : Operand} {a : Option Addr} {u v e : Nat} (hx : ev? ρ x = some (.slice a u v)) (hy : ev? ρ y = some (.slice none 0 0)) (ht : look? T.sls t = some e) :
    OpVal P n R cx (.binOp .eql t x y t') ty ρ L (.bool a.isNone) :=
  .eqOf hx hy fun w => by
    have := hT.sls _ (look?_mem ht)
    have h := run_equal_of (P := P) (t := t) (x := .slice a u v) (y := .slice none 0 0) (b := a.isNone) (w := w) (fun d => by cases a <;> simp [Op.equalIn, underlying, this])
    simp [eqGuard, binOp, h]
theorem OpVal.conv {T : Tab} (hT : TabOk P T) {s d ty : TypeId} {x : Operand} {k0 k1 kk : IntKind} {i r : Int} (hx : ev? ρ x = some (.int k0 i)) (hs : look? T.ints s = some k1) (hd : look? T.ints d = some kk) (hr : kk.wrap i = r) :
    OpVal P n R cx (.convert s d x) ty ρ L (.int kk r) := .convInt hx (hT.ints _ (look?_mem hs)) (hT.ints _ (look?_mem hd)) hr

/-! ### Writing -/
/-- The chunk of block 'b' holds o' for o. -/
inductive Upd (b : Nat) (o o' : Obj) : List HL → List HL → Prop
  | here {L : List HL} : Upd b o o' ([(b, o)] :: L) ([(b, o')] :: L)
  | there {c : HL} {L L' : List HL} : Upd b o o' L L' → Upd b o o' (c :: L) (c :: L')
theorem Upd.split {b : Nat} {o o' : Obj} {L L' : List HL} (h : Upd b o o' L L') : ∃ A B : HL, L.flatten = A ++ (b, o) :: B ∧ L'.flatten = A ++ (b, o') :: B := by
  induction h with
  | here => exact ⟨[], _, rfl, rfl⟩
  | @there c _ _ _ ih =>
    obtain ⟨A, B, h1, h2⟩ := ih
    exact ⟨c ++ A, B, by simp [h1], by simp [h2]⟩
theorem St.upd {w0 w w' : World} {S0 : List Nat} {b : Nat} {o o' : Obj} {L L' : List HL} (hs : St w0 S0 R L w) (hu : Upd b o o' L L')
    (hb : w'.heap[b]? = some o') (ho : ∀ j, j ≠ b → w'.heap[j]? = w.heap[j]?) (hz : w'.heap.size = w.heap.size) (he : w'.os = w.os ∧ w'.tape = w.tape ∧ w'.output = w.output) : St w0 S0 R L' w' := by
  obtain ⟨A, B, h1, h2⟩ := hu.split
  have hnd := hs.nd
  have hown := hs.own
  have hhas := hs.has
  rw [h1] at hnd hown hhas
  have hids : ids L'.flatten = ids (A ++ (b, o) :: B) := by rw [h2]; simp [ids]
  have hne : ∀ p ∈ A ++ B, p.1 ≠ b := by
    intro p hp e
    have : (ids (A ++ (b, o) :: B)).Perm (b :: ids (A ++ B)) := by simp [ids]
    have h3 := this.nodup_iff.1 hnd
    simp only [List.nodup_cons] at h3
    exact h3.1 (by rw [← e]; exact List.mem_map_of_mem (f := (·.1)) hp)
  have hbo := hown b (by simp [ids])
  refine ⟨?_, by rw [hids]; exact hnd, ?_, by rw [hids]; exact hown, by rw [hz]; exact hs.sz, hs.ro, ⟨he.1.trans hs.env.1, he.2.1.trans hs.env.2.1, he.2.2.trans hs.env.2.2⟩⟩
  · intro p hp
    rw [h2] at hp
    rcases List.mem_append.1 hp with hp | hp
    · rw [ho _ (hne p (by simp [hp]))]; exact hhas p (by simp [hp])
    · rcases List.mem_cons.1 hp with rfl | hp
      · exact hb
      · rw [ho _ (hne p (by simp [hp]))]; exact hhas p (by simp [hp])
  · intro j hj hjS
    have : j ≠ b := by
      rintro rfl
      rcases hbo with h | h
      · exact hjS h
      · omega
    rw [ho j this]
    exact hs.fr j hj hjS

theorem setRow_size (w : World) (g : Nat) (cs : Array Value) : (w.setRow g cs).heap.size = w.heap.size := by simp [World.setRow]

/-- Whatever stores a row of cells into an owned block. -/
theorem run_storeCells_splice {w : World} {b off : Nat} {l l' vs : List Value} {e : TypeId} (hg : w.heap[b]? = some (.cells l.toArray e (0, 0)))
    (hv : splice? l off vs = some l') (h1 : allOne vs = true) : (storeCells ⟨b, off, none⟩ vs).run P w = .ok () (w.setRow b l'.toArray) := by
  obtain ⟨h2, h3⟩ := splice?_eq l off vs hv
  have := run_storeCells_at (P := P) b off e vs 0 l.toArray w hg (by simpa using h2) (allOne_mem h1)
  rw [this, h3]
  simp

theorem W.storeCells {all : Array Oper} {oo : Oper} {l : List Oper} {t : TypeId} {x y : Operand} {b off m : Nat} {L' : List HL} {cl cl' vs : List Value} {e : TypeId} {v : Value}
    (ho : oo.op = .store t x y) (hg : oo.guard = none) (hd : oo.dst = none)
    (hz : SizeOf P t m) (hx : ev? ρ x = some (.pointer (some ⟨b, off, none⟩))) (hy : ev? ρ y = some v) (hc : cells? v = some vs) (hl : vs.length = m) (h1 : allOne vs = true)
    (hv : splice? cl off vs = some cl') (hu : Upd b (.cells cl.toArray e (0, 0)) (.cells cl'.toArray e (0, 0)) L L')
    (hk : W P n R cx (.ops all l :: k) ρ L') : W P n R cx (.ops all (oo :: l) :: k) ρ L := by
  refine ⟨fun a w hf hs => ?_⟩
  obtain ⟨A, B, e1, -⟩ := hu.split
  have hb : w.heap[b]? = some (.cells cl.toArray e (0, 0)) := hs.has (b, .cells cl.toArray e (0, 0)) (by rw [e1]; simp)
  have hst := run_storeCells_splice (P := P) hb hv h1
  have hcs := cells?_eq hc
  simp only [mean, wpList, Region.wanted, hg, if_true]
  refine .inl ?_
  unfold Oper.wp execOp
  rw [ho]
  simp [hf.ev hx, hf.ev hy, Instr.storeAt, Instr.sureAddr, storeVar, hz w, hcs, hl, hst, hd, Oper.upon, Act.put]
  refine hk.go a _ hf (hs.upd hu (setRow_heap w b _ _ e _ hb) (fun j hj => setRow_other w b j _ hj) (setRow_size ..) ⟨rfl, rfl, rfl⟩)

theorem St.new {w0 w : World} {S0 : List Nat} {L : List HL} (hs : St w0 S0 R L w) (o : Obj) : St w0 S0 R ([(w.heap.size, o)] :: L) (w.alloc o) := by
  have hlt : ∀ p ∈ L.flatten, p.1 < w.heap.size := fun p hp => (Array.getElem?_eq_some_iff.1 (hs.has p hp)).1
  refine ⟨?_, ?_, ?_, ?_, by simpa using Nat.le_succ_of_le hs.sz, hs.ro, hs.env⟩
  · intro p hp
    simp only [List.flatten_cons, List.singleton_append, List.mem_cons] at hp
    rcases hp with rfl | hp
    · exact heap_alloc_new w o
    · rw [heap_alloc_old w o (hlt p hp)]; exact hs.has p hp
  · simp only [List.flatten_cons, List.singleton_append, ids, List.map_cons, List.nodup_cons]
    refine ⟨fun h => ?_, hs.nd⟩
    obtain ⟨p, hp, hp2⟩ := List.mem_map.1 h
    have := hlt p hp
    omega
  · intro j hj hjS
    rw [heap_alloc_old w o (Nat.lt_of_lt_of_le hj hs.sz)]
    exact hs.fr j hj hjS
  · intro j hj
    simp only [List.flatten_cons, List.singleton_append, ids, List.map_cons, List.mem_cons] at hj
    rcases hj with rfl | hj
    · exact .inr hs.sz
    · exact hs.own j hj

/-- An operation that makes one block and yields a value that names it. -/
structure NewOf (P : Program) (n : Nat) (R : HL) (cx : Cx) (op : Op) (ty : TypeId) (ρ : Env) (L : List HL) (o : Obj) (f : Nat → Value) : Prop where
  go : ∀ (oo : Oper) a w, oo.op = op → oo.type = ty → Fits n ρ a → St cx.w0 cx.S0 R L w → ∃ m, (execOp a.eval oo).run P w = .ok (.value (f w.heap.size)) ({ w with drawn := m }.alloc o)
theorem W.newOf {all : Array Oper} {d : Nat} {op : Op} {ty : TypeId} {pos : String} {af : Array Edge} {l : List Oper} {o : Obj} {f : Nat → Value}
    (h : ∀ (oo : Oper) a w, oo.op = op → oo.type = ty → Fits n ρ a → St cx.w0 cx.S0 R L w → ∃ m, (execOp a.eval oo).run P w = .ok (.value (f w.heap.size)) ({ w with drawn := m }.alloc o)) (hd : d < n)
    (hk : ∀ b, W P n R cx (.ops all l :: k) ((d, f b) :: ρ) ([(b, o)] :: L)) : W P n R cx (.ops all (⟨some d, op, ty, pos, af, none⟩ :: l) :: k) ρ L := by
  refine ⟨fun a w hf hs => ?_⟩
  obtain ⟨m, hr⟩ := h ⟨some d, op, ty, pos, af, none⟩ a w rfl rfl hf hs
  simp only [mean, wpList, Region.wanted, if_true]
  refine .inl ?_
  unfold Oper.wp
  rw [hr]
  have hs' : St cx.w0 cx.S0 R L { w with drawn := m } := ⟨hs.has, hs.nd, hs.fr, hs.own, hs.sz, hs.ro, hs.env⟩
  exact (hk w.heap.size).go _ _ (hf.put hd _) (hs'.new o)

theorem W.store {T : Tab} (hT : TabOk P T) {all : Array Oper} {l : List Oper} {t ty : TypeId} {x y : Operand} {pos : String} {af : Array Edge} {b off m : Nat} {ag : Bool} {L' : List HL} {cl cl' vs : List Value} {e : TypeId} {v : Value}
    (hx : ev? ρ x = some (.pointer (some ⟨b, off, none⟩))) (hu : Upd b (.cells cl.toArray e (0, 0)) (.cells cl'.toArray e (0, 0)) L L')
    (hy : ev? ρ y = some v) (hc : cells? v = some vs) (hz : look? T.tys t = some (ag, m)) (hl : vs.length = m) (h1 : allOne vs = true)
    (hv : splice? cl off vs = some cl')
    (hk : W P n R cx (.ops all l :: k) ρ L') : W P n R cx (.ops all (⟨none, .store t x y, ty, pos, af, none⟩ :: l) :: k) ρ L :=
  W.storeCells (oo := ⟨none, .store t x y, ty, pos, af, none⟩) rfl rfl rfl (hT.tys _ (look?_mem hz)).2 hx hy hc hl h1 hv hu hk
theorem NewOf.alloc {t ty : TypeId} {z : Value} {zs : List Value} (hz : ZeroOf P t z) (hc : cells? z = some zs) :
    NewOf P n R cx (.alloc t) ty ρ L (.cells zs.toArray t (0, 0)) (fun b => .pointer (some ⟨b, 0, none⟩)) := by
  refine ⟨fun oo a w ho hty hf hs => ⟨w.drawn, ?_⟩⟩
  unfold execOp; rw [ho]
  show _ = Result.ok _ (w.alloc _)
  simp [Instr.alloc, hz w, newVar, newRow, cells?_eq hc]
theorem W.alloc {all : Array Oper} {d : Nat} {t ty : TypeId} {pos : String} {af : Array Edge} {l : List Oper} {z : Value} {zs : List Value}
    (hz : ZeroOf P t z) (hc : cells? z = some zs) (hd : d < n)
    (hk : ∀ b, W P n R cx (.ops all l :: k) ((d, .pointer (some ⟨b, 0, none⟩)) :: ρ) ([(b, .cells zs.toArray t (0, 0))] :: L)) :
    W P n R cx (.ops all (⟨some d, .alloc t, ty, pos, af, none⟩ :: l) :: k) ρ L := W.newOf (NewOf.alloc hz hc).go hd hk
theorem NewOf.new {T : Tab} (hT : TabOk P T) {t ty : TypeId} {z : Value} {zs : List Value} (hz : look? T.zeros t = some z) (hc : cells? z = some zs) :
    NewOf P n R cx (.alloc t) ty ρ L (.cells zs.toArray t (0, 0)) (fun b => .pointer (some ⟨b, 0, none⟩)) := NewOf.alloc (hT.zeros _ (look?_mem hz)) hc
theorem W.new {T : Tab} (hT : TabOk P T) {all : Array Oper} {d : Nat} {t ty : TypeId} {pos : String} {af : Array Edge} {l : List Oper} {z : Value} {zs : List Value}
    (hz : look? T.zeros t = some z) (hc : cells? z = some zs) (hd : d < n)
    (hk : ∀ b, W P n R cx (.ops all l :: k) ((d, .pointer (some ⟨b, 0, none⟩)) :: ρ) ([(b, .cells zs.toArray t (0, 0))] :: L)) :
    W P n R cx (.ops all (⟨some d, .alloc t, ty, pos, af, none⟩ :: l) :: k) ρ L := W.alloc (hT.zeros _ (look?_mem hz)) hc hd hk
theorem NewOf.box {t ty : TypeId} {x : Operand} {z : Value} {zs : List Value} (hx : ev? ρ x = some z) (hc : cells? z = some zs) :
    NewOf P n R cx (.box t x) ty ρ L (.cells zs.toArray t (0, 0)) (fun b => .pointer (some ⟨b, 0, none⟩)) := by
  refine ⟨fun oo a w ho hty hf hs => ⟨w.drawn, ?_⟩⟩
  unfold execOp; rw [ho]
  show _ = Result.ok _ (w.alloc _)
  simp [Instr.box, newVar, newRow, hf.ev hx, cells?_eq hc]
theorem W.box {all : Array Oper} {d : Nat} {t ty : TypeId} {x : Operand} {pos : String} {af : Array Edge} {l : List Oper} {z : Value} {zs : List Value}
    (hx : ev? ρ x = some z) (hc : cells? z = some zs) (hd : d < n)
    (hk : ∀ b, W P n R cx (.ops all l :: k) ((d, .pointer (some ⟨b, 0, none⟩)) :: ρ) ([(b, .cells zs.toArray t (0, 0))] :: L)) :
    W P n R cx (.ops all (⟨some d, .box t x, ty, pos, af, none⟩ :: l) :: k) ρ L := W.newOf (NewOf.box hx hc).go hd hk

/-! ### Guards -/
theorem W.guardGo {all : Array Oper} {d : Option Nat} {op : Op} {ty : TypeId} {pos : String} {af : Array Edge} {l : List Oper} {j s : Nat} {want b : Bool}
    (hj : (all[j]?).bind (·.dst) = some s) (hb : ρ.get? s = some (.bool b)) (hw : b = want) (hk : W P n R cx (.ops all (⟨d, op, ty, pos, af, none⟩ :: l) :: k) ρ L) :
    W P n R cx (.ops all (⟨d, op, ty, pos, af, some (j, want)⟩ :: l) :: k) ρ L := by
  refine ⟨fun a w hf hs => ?_⟩
  have h := hk.go a w hf hs
  have hy : yielded all a.tmps j = some b := by
    have := hf.at_ s _ hb
    unfold yielded
    rw [hj]
    simp only [Option.bind_some]
    simp only [Array.getD_eq_getD_getElem?] at this
    cases hh : a.tmps[s]? with
    | none => rw [hh] at this; simp [undef] at this
    | some u => rw [hh] at this; simp at this; subst this; rfl
  simp only [mean, wpList] at h ⊢
  rw [if_pos (by simp [Region.wanted])] at h
  rw [if_pos (by simp [Region.wanted, hy, hw])]
  exact h
theorem W.guardSkip {all : Array Oper} {d : Nat} {op : Op} {ty : TypeId} {pos : String} {af : Array Edge} {l : List Oper} {j s : Nat} {want b : Bool}
    (hj : (all[j]?).bind (·.dst) = some s) (hb : ρ.get? s = some (.bool b)) (hw : b = !want) (hd : d < n) (hk : W P n R cx (.ops all l :: k) ((d, undef) :: ρ) L) :
    W P n R cx (.ops all (⟨some d, op, ty, pos, af, some (j, want)⟩ :: l) :: k) ρ L := by
  refine ⟨fun a w hf hs => ?_⟩
  have hy : yielded all a.tmps j = some b := by
    have := hf.at_ s _ hb
    unfold yielded
    rw [hj]
    simp only [Option.bind_some]
    simp only [Array.getD_eq_getD_getElem?] at this
    cases hh : a.tmps[s]? with
    | none => rw [hh] at this; simp [undef] at this
    | some u => rw [hh] at this; simp at this; subst this; rfl
  simp only [mean, wpList]
  rw [if_neg (by simp only [Region.wanted, hy, hw]; cases want <;> simp)]
  exact hk.go _ _ (hf.put hd _) hs
/-- Two guards where the first op has undef as its guard's value (it was skipped itself): skipped, too. -/
theorem W.guardUndef {all : Array Oper} {d : Nat} {op : Op} {ty : TypeId} {pos : String} {af : Array Edge} {l : List Oper} {j s : Nat} {want : Bool}
    (hj : (all[j]?).bind (·.dst) = some s) (hb : ρ.get? s = some undef) (hd : d < n) (hk : W P n R cx (.ops all l :: k) ((d, undef) :: ρ) L) :
    W P n R cx (.ops all (⟨some d, op, ty, pos, af, some (j, want)⟩ :: l) :: k) ρ L := by
  refine ⟨fun a w hf hs => ?_⟩
  have hy : yielded all a.tmps j = none := by
    have := hf.at_ s _ hb
    unfold yielded
    rw [hj]
    simp only [Option.bind_some]
    simp only [Array.getD_eq_getD_getElem?] at this
    cases hh : a.tmps[s]? with
    | none => rfl
    | some u => rw [hh] at this; simp at this; subst this; rfl
  simp only [mean, wpList]
  rw [if_neg (by simp [Region.wanted, hy])]
  exact hk.go _ _ (hf.put hd _) hs

/-! ### Branches -/
theorem W.ite {c : Operand} {x y : Code} {b : Bool} (hc : ev? ρ c = some (.bool b)) (ht : b = true → W P n R cx (.code x :: k) ρ L) (hf : b = false → W P n R cx (.code y :: k) ρ L) :
    W P n R cx (.code (.cond c x y) :: k) ρ L :=
  ⟨fun a w hfi hs => wp_cond_split (hfi.ev hc) (fun h => (ht h).go a w hfi hs) (fun h => (hf h).go a w hfi hs)⟩
theorem W.iteT {c : Operand} {x y : Code} {b : Bool} (hc : ev? ρ c = some (.bool b)) (hb : b = true) (ht : W P n R cx (.code x :: k) ρ L) :
    W P n R cx (.code (.cond c x y) :: k) ρ L := W.ite hc (fun _ => ht) (fun h => by rw [hb] at h; cases h)
theorem W.iteF {c : Operand} {x y : Code} {b : Bool} (hc : ev? ρ c = some (.bool b)) (hb : b = false) (hf : W P n R cx (.code y :: k) ρ L) :
    W P n R cx (.code (.cond c x y) :: k) ρ L := W.ite hc (fun h => by rw [hb] at h; cases h) (fun _ => hf)

/-! ### Giving up what is not needed -/
theorem W.env {ρ' : Env} (h : Env.sub ρ' ρ) (hk : W P n R cx k ρ' L) : W P n R cx k ρ L := ⟨fun a w hf hs => hk.go a w (hf.sub h) hs⟩

inductive Pick : List HL → HL → List HL → Prop
  | here {c : HL} {L : List HL} : Pick (c :: L) c L
  | there {c d : HL} {L L' : List HL} : Pick L c L' → Pick (d :: L) c (d :: L')
inductive Sel : List HL → List HL → List HL → Prop
  | nil {L : List HL} : Sel L [] L
  | cons {c : HL} {cs L L1 L2 : List HL} : Pick L c L1 → Sel L1 cs L2 → Sel L (c :: cs) L2
theorem Pick.perm {L L' : List HL} {c : HL} (h : Pick L c L') : L.flatten.Perm (c ++ L'.flatten) := by
  induction h with
  | here => simp
  | @there c d L L' _ ih =>
    simp only [List.flatten_cons]
    refine (List.Perm.append_left d ih).trans ?_
    rw [← List.append_assoc, ← List.append_assoc]
    exact List.Perm.append_right _ List.perm_append_comm
theorem Sel.perm {L M L' : List HL} (h : Sel L M L') : L.flatten.Perm (M.flatten ++ L'.flatten) := by
  induction h with
  | nil => simp
  | cons hp _ ih =>
    simp only [List.flatten_cons, List.append_assoc]
    exact hp.perm.trans (List.Perm.append_left _ ih)
theorem St.perm {w0 w : World} {S0 : List Nat} {L M : List HL} {X : HL} (hs : St w0 S0 R L w) (h : L.flatten.Perm (M.flatten ++ X)) : St w0 S0 R M w := by
  have hi : (ids L.flatten).Perm (ids M.flatten ++ ids X) := by simpa [ids] using h.map (·.1)
  refine ⟨fun p hp => hs.has p (h.mem_iff.2 (by simp [hp])), ?_, hs.fr, fun b hb => hs.own b (hi.mem_iff.2 (by simp [hb])), hs.sz, hs.ro, hs.env⟩
  exact (List.nodup_append.1 (hi.nodup_iff.1 hs.nd)).1
theorem W.keep {M L' : List HL} (h : Sel L M L') (hk : W P n R cx k ρ M) : W P n R cx k ρ L := ⟨fun a w hf hs => hk.go a w hf (hs.perm h.perm)⟩
/-- Chunks grouped anew. -/
theorem W.regroup {M : List HL} (h : L.flatten = M.flatten) (hk : W P n R cx k ρ M) : W P n R cx k ρ L :=
  ⟨fun a w hf hs => hk.go a w hf (hs.perm (X := []) (by rw [h]; simp))⟩

def norm? {α : Type} : List α → Option (List α)
  | [] => some []
  | c :: r => match norm? r with
    | some r' => some (c :: r')
    | none => none
theorem norm?_eq {α : Type} : ∀ {l l' : List α}, norm? l = some l' → l = l'
  | [], _, h => by cases h; rfl
  | c :: r, l', h => by
    simp only [norm?] at h
    split at h
    · rename_i r' hr
      cases h
      rw [norm?_eq hr]
    · cases h
/-- On to the next stop. -/
theorem W.step {T : Tab} (hT : TabOk P T) {s s' : List Kont} {ρ ρ' : Env} {L L' : List HL} (h1 : Sl.drive T n 3000 s ρ = some (s', ρ')) (h2 : norm? L = some L') (h : W P n R cx s' ρ' L') : W P n R cx s ρ L := by
  rw [norm?_eq h2]
  exact W.drive hT _ h1 h

/-! ### Calls -/
theorem St.call {w0 w w' : World} {S0 : List Nat} {L pre rest L' : List HL} {ro : HL} (hs : St w0 S0 R L w) (h : Sel L pre rest) (hc : St w (ids pre.flatten) ro L' w') :
    St w0 S0 R (L' ++ rest) w' := by
  have hp := h.perm
  have hi : (ids L.flatten).Perm (ids pre.flatten ++ ids rest.flatten) := by simpa [ids] using hp.map (·.1)
  obtain ⟨n1, n2, n3⟩ := List.nodup_append.1 (hi.nodup_iff.1 hs.nd)
  have hrest : ∀ p ∈ rest.flatten, p.1 < w.heap.size ∧ p.1 ∉ ids pre.flatten ∧ w.heap[p.1]? = some p.2 := by
    intro p hpm
    have h1 := hs.has p (hp.mem_iff.2 (by simp [hpm]))
    exact ⟨(Array.getElem?_eq_some_iff.1 h1).1, fun hm => n3 _ hm _ (List.mem_map_of_mem (f := (·.1)) hpm) rfl, h1⟩
  refine ⟨?_, ?_, ?_, ?_, Nat.le_trans hs.sz hc.sz, hs.ro, ⟨hc.env.1.trans hs.env.1, hc.env.2.1.trans hs.env.2.1, hc.env.2.2.trans hs.env.2.2⟩⟩
  · intro p hpm
    simp only [List.flatten_append, List.mem_append] at hpm
    rcases hpm with hpm | hpm
    · exact hc.has p hpm
    · obtain ⟨h1, h2, h3⟩ := hrest p hpm
      rw [hc.fr _ h1 h2]
      exact h3
  · simp only [List.flatten_append, ids, List.map_append]
    refine List.nodup_append.2 ⟨hc.nd, n2, fun x hx y hy e => ?_⟩
    subst e
    obtain ⟨p, hpm, rfl⟩ := List.mem_map.1 hy
    obtain ⟨h1, h2, -⟩ := hrest p hpm
    rcases hc.own _ hx with h | h
    · exact h2 h
    · omega
  · intro b hb hbS
    have hb' : b ∉ ids pre.flatten := fun hm => by
      rcases hs.own b (hi.mem_iff.2 (by simp [hm])) with h | h
      · exact hbS h
      · omega
    rw [hc.fr b (Nat.lt_of_lt_of_le hb hs.sz) hb', hs.fr b hb hbS]
  · intro b hb
    simp only [List.flatten_append, ids, List.map_append, List.mem_append] at hb
    rcases hb with hb | hb
    · rcases hc.own b hb with h | h
      · exact hs.own b (hi.mem_iff.2 (by simp [h]))
      · exact .inr (Nat.le_trans hs.sz h)
    · exact hs.own b (hi.mem_iff.2 (List.mem_append.2 (.inr hb)))

/-- What a callee only reads: of the caller's own rest, or of what the caller only reads. -/
def RoIn (R : HL) (rest : List HL) (ro : HL) : Prop := ∀ p ∈ ro, p ∈ rest.flatten ∨ p ∈ R
theorem RoIn.nil {rest : List HL} : RoIn R rest [] := fun _ h => by cases h
theorem RoIn.cons {rest : List HL} {b : Nat} {o : Obj} {ro : HL} (h : At R rest b o) (h2 : RoIn R rest ro) : RoIn R rest ((b, o) :: ro) := by
  intro p hp
  rcases List.mem_cons.1 hp with rfl | hp
  · exact h
  · exact h2 p hp
theorem RoIn.append {rest : List HL} {A B : HL} (h : RoIn R rest A) (h2 : RoIn R rest B) : RoIn R rest (A ++ B) := by
  intro p hp
  rcases List.mem_append.1 hp with hp | hp
  · exact h p hp
  · exact h2 p hp
theorem RoIn.own {rest : List HL} {H : HL} (i : Nat) (h : rest[i]? = some H) : RoIn R rest H := fun _ hp => .inl (List.mem_flatten.2 ⟨_, List.mem_of_getElem? h, hp⟩)
theorem RoIn.same {rest : List HL} : RoIn R rest R := fun _ hp => .inr hp

theorem Ctr.use {f : FuncId} {args : List Value} {pre rest : List HL} {ro : HL} {post : Value → List HL → Prop} (hsp : Ctr P f args pre ro post)
    {w0 w : World} {S0 : List Nat} (hs : St w0 S0 R L w) (h : Sel L pre rest) (hro : RoIn R rest ro) :
    Calls P f args.toArray w fun e w' => ∃ v L', e = .returned v ∧ post v L' ∧ St w0 S0 R (L' ++ rest) w' := by
  have hp := h.perm
  have hi : (ids L.flatten).Perm (ids pre.flatten ++ ids rest.flatten) := by simpa [ids] using hp.map (·.1)
  obtain ⟨n1, n2, n3⟩ := List.nodup_append.1 (hi.nodup_iff.1 hs.nd)
  refine (hsp.go w (fun p hpm => hs.has p (hp.mem_iff.2 (by simp [hpm]))) n1 (fun p hpm => ?_)).mono ?_
  · rcases hro p hpm with h1 | h1
    · exact ⟨hs.has p (hp.mem_iff.2 (by simp [h1])), fun hm => n3 _ hm _ (List.mem_map_of_mem (f := (·.1)) h1) rfl⟩
    · obtain ⟨h2, h3⟩ := hs.ro p h1
      have hlt := (Array.getElem?_eq_some_iff.1 h2).1
      refine ⟨by rw [hs.fr _ hlt h3]; exact h2, fun hm => ?_⟩
      rcases hs.own _ (hi.mem_iff.2 (List.mem_append.2 (.inl hm))) with h | h
      · exact h3 h
      · omega
  · rintro e w' ⟨v, L', he, hpost, hst⟩
    exact ⟨v, L', he, hpost, hs.call h hst⟩

theorem W.call {all : Array Oper} {d : Nat} {c : Call} {ty : TypeId} {pos : String} {af : Array Edge} {l : List Oper} {fo : Operand} {xs : Array Operand} {tys : Array TypeId}
    {f : FuncId} {fst vs cap args : List Value} {pre rest : List HL} {ro : HL} {post : Value → List HL → Prop}
    (hc : c = ⟨.value fo, xs, tys⟩) (hfo : ev? ρ fo = some (.func (.func f) fst.toArray cap.toArray)) (hxs : evs? ρ xs.toList = some vs) (hargs : fst ++ vs ++ cap = args)
    (hsp : Ctr P f args pre ro post) (hsel : Sel L pre rest) (hro : RoIn R rest ro) (hd : d < n)
    (hk : ∀ v L', post v L' → W P n R cx (.ops all l :: k) ((d, v) :: ρ) (L' ++ rest)) :
    W P n R cx (.ops all (⟨some d, .call c, ty, pos, af, none⟩ :: l) :: k) ρ L := by
  refine ⟨fun a w hf hs => ?_⟩
  have hxs' := hf.evs hxs
  have hx : xs.map a.eval = vs.toArray := by cases xs; simp at hxs'; simp [hxs']
  simp only [mean, wpList, Region.wanted, if_true]
  refine .inl ?_
  unfold Oper.wp execOp
  subst hc
  have hcall := hsp.callable
  simp only [resolve, Deferred.ofValue, hf.ev hfo, hx, Sem.run_bind, Sem.run_pure, Result.andThen_ok, invoke]
  rw [show (fst.toArray ++ vs.toArray ++ cap.toArray) = args.toArray from by rw [← hargs]; simp, hcall]
  simp only [Oper.upon]
  refine (hsp.use hs hsel hro).mono ?_
  rintro e w' ⟨v, L', rfl, hpost, hst⟩
  exact (hk v L' hpost).go _ _ (hf.put hd v) hst

/-- A call of a function without a body that the model answers at once. -/
theorem OpVal.callX {c : Call} {ty : TypeId} {fo : Operand} {xs : Array Operand} {tys : Array TypeId} {f : FuncId} {vs : List Value} {v : Value}
    (hc : c = ⟨.value fo, xs, tys⟩) (hfo : ev? ρ fo = some (.func (.func f) #[] #[])) (hxs : evs? ρ xs.toList = some vs)
    (hr : ∀ w, (callFunc f vs.toArray).run P w = .ok (.value v) w) : OpVal P n R cx (.call c) ty ρ L v := by
  refine ⟨fun oo a w ho hty hf hs => ?_⟩
  have hxs' := hf.evs hxs
  have hx : xs.map a.eval = vs.toArray := by cases xs; simp at hxs'; simp [hxs']
  subst hc
  unfold execOp; rw [ho]
  simp only [resolve, Deferred.ofValue, hf.ev hfo, hx, Sem.run_bind, Sem.run_pure, Result.andThen_ok, invoke]
  rw [show ((#[] : Array Value) ++ vs.toArray ++ #[]) = vs.toArray from by simp, hr w]

/-! ### Loops -/
/-- 'I m ρ L': with m (or fewer) rounds to go. -/
theorem W.loop {c : Code} (I : Nat → Env → List HL → Prop) (m0 : Nat) (ρ0 : Env) (L0 : List HL) {X : List HL} (hsub : Env.sub ρ0 ρ) (hsel : Sel L L0 X) (h0 : I m0 ρ0 L0)
    (round : ∀ m ρ1 L1, I m ρ1 L1 → W P n R cx (.code c :: .rnd (fun ρ2 L2 => ∃ m', m' < m ∧ I m' ρ2 L2) :: k) ρ1 L1) : W P n R cx (.code (.loop c) :: k) ρ L := by
  refine ⟨fun a w hf hs => ?_⟩
  have hs0 := hs.perm hsel.perm
  have hf0 := hf.sub hsub
  let J : Nat → Act → World → Prop := fun m a w => ∃ ρ1 L1, I m ρ1 L1 ∧ Fits n ρ1 a ∧ St cx.w0 cx.S0 R L1 w
  have key : ∀ (m : Nat) (a : Act) (w : World), J m a w → ∀ (b : Frame) (kk : List Item) (cs : List Frame),
      ∃ e a' w', mean P n R cx k e a' w' ∧ Arrives P (lone (b.at a (.code c :: .inLoop c :: kk)) cs w) b kk cs e a' w' := by
    intro m
    induction m using Nat.strongRecOn with
    | _ m ih =>
      intro a w hJ b kk cs
      obtain ⟨ρ1, L1, hI, hf1, hs1⟩ := hJ
      have hr := (round m ρ1 L1 hI).go a w hf1 hs1
      simp only [mean] at hr
      obtain ⟨e, a1, w1, hq, harr⟩ := hr b (.inLoop c :: kk) cs
      cases e with
      | normal =>
        obtain ⟨ρ2, L2, ⟨m', hm', hI'⟩, hf2, hs2⟩ := hq
        obtain ⟨e2, a2, w2, hq2, harr2⟩ := ih m' hm' a1 w1 ⟨ρ2, L2, hI', hf2, hs2⟩ b kk cs
        exact ⟨e2, a2, w2, hq2, .of_steps (Steps.trans harr (.one step_inLoop)) harr2⟩
      | exit id => exact ⟨_, a1, w1, hq, .pass (x := .inLoop c) rfl (fun _ _ => .inl (by simp)) harr⟩
      | goto l => exact ⟨_, a1, w1, hq, .pass (x := .inLoop c) rfl (fun _ _ => .inl (by simp)) harr⟩
      | ret => exact ⟨_, a1, w1, hq, .pass (x := .inLoop c) rfl (fun _ _ => .inl (by simp)) harr⟩
      | panic ch => exact ⟨_, a1, w1, hq, .pass (x := .inLoop c) rfl (fun _ _ => .inl (by simp)) harr⟩
      | outgrown => exact ⟨_, a1, w1, hq, .pass (x := .inLoop c) rfl (fun _ _ => .inl (by simp)) harr⟩
  intro b kk cs
  obtain ⟨e, a', w', hq, harr⟩ := key m0 a w ⟨ρ0, L0, h0, hf0, hs0⟩ b kk cs
  exact ⟨e, a', w', hq, .of_steps (.one step_loop) harr⟩
theorem W.rnd {J : Env → List HL → Prop} (ρ1 : Env) (L1 : List HL) {X : List HL} (hsub : Env.sub ρ1 ρ) (hsel : Sel L L1 X) (h : J ρ1 L1) : W P n R cx (.rnd J :: k) ρ L :=
  ⟨fun _ _ hf hs => ⟨ρ1, L1, h, hf.sub hsub, hs.perm hsel.perm⟩⟩

/-! ### A cut -/
theorem wp_mono2 {o : Oper} {a : Act} {w : World} {K K' : Act → World → Prop} {Q Q' : Exit → Act → World → Prop} (h : ∀ a w, K a w → K' a w) (hq : ∀ e a w, Q e a w → Q' e a w)
    (hh : o.wp P a w K Q) : o.wp P a w K' Q' := by
  unfold Oper.wp at *
  generalize (execOp a.eval o).run P w = r at *
  cases r with
  | ok nx w' =>
    cases nx <;> simp only [Oper.upon] at hh ⊢ <;> try exact hh
    case value => exact h _ _ hh
    case skip => exact h _ _ hh
    case defer => exact h _ _ hh
    case enter =>
      refine hh.mono fun e w'' he => ?_
      cases e with
      | returned v => exact h _ _ he
      | panicked ch => exact hq _ _ _ he
      | outgrown => obtain ⟨a0, w0, h0⟩ := he; exact ⟨a0, w0, hq _ _ _ h0⟩
    case row => exact hh.mono fun _ _ he => h _ _ he
  | halt x w' =>
    cases x <;> simp only [Oper.upon] at hh ⊢ <;> try exact hh
    exact hq _ _ _ hh
theorem wpList_mono' {ops : Array Oper} {Q Q' : Exit → Act → World → Prop} (hq : ∀ e a w, Q e a w → Q' e a w) :
    ∀ (l : List Oper) (a : Act) (w : World), wpList P ops Q l a w → wpList P ops Q' l a w
  | [], _, _, h => hq _ _ _ h
  | o :: l, a, w, h => by
    simp only [wpList] at h ⊢
    split
    · rename_i hg
      rw [if_pos hg] at h
      rcases h with h | ⟨h1, a0, w0, h2⟩
      · exact .inl (wp_mono2 (fun a w hh => wpList_mono' hq l a w hh) hq h)
      · exact .inr ⟨h1, a0, w0, hq _ _ _ h2⟩
    · rename_i hg
      rw [if_neg hg] at h
      exact wpList_mono' hq l _ w h
/-- What stands at the head of the stack comes to J; what follows is shown from J. -/
theorem W.cut {x : Kont} (J : Env → List HL → Prop) (hx : W P n R cx (x :: .rnd J :: k) ρ L) (hk : ∀ ρ1 L1, J ρ1 L1 → W P n R cx k ρ1 L1) (hp : match x with | .blk _ => False | .scp => False | _ => True) :
    W P n R cx (x :: k) ρ L := by
  refine ⟨fun a w hf hs => ?_⟩
  have h := hx.go a w hf hs
  have hm : ∀ e a w, mean P n R cx (.rnd J :: k) e a w → mean P n R cx k e a w := by
    intro e a w he
    cases e with
    | normal =>
      obtain ⟨ρ1, L1, hJ, hf1, hs1⟩ := he
      exact (hk ρ1 L1 hJ).go a w hf1 hs1
    | _ => exact he
  cases x with
  | code c => exact wp_mono h hm
  | blk id => exact hp.elim
  | scp => exact hp.elim
  | ops all l =>
    simp only [mean] at h ⊢
    exact wpList_mono' hm l a w h
  | rnd J' => exact h

/-! ### The end -/
inductive ResOk (P : Program) (R : HL) (ρ : Env) (L : List HL) : List ResultVar → List Value → Prop
  | nil : ResOk P R ρ L [] []
  | tmp {t : Nat} {v : Value} {rs : List ResultVar} {vs : List Value} : ρ.get? t = some v → ResOk P R ρ L rs vs → ResOk P R ρ L (.tmp t :: rs) (v :: vs)
  | cell1 {t ty b off : Nat} {l : List Value} {e : TypeId} {fr : Nat × Nat} {v : Value} {rs : List ResultVar} {vs : List Value} :
      IsAgg P ty false → ρ.get? t = some (.pointer (some ⟨b, off, none⟩)) → At R L b (.cells l.toArray e fr) → l[off]? = some v → ResOk P R ρ L rs vs → ResOk P R ρ L (.cell t ty :: rs) (v :: vs)
  | cellN {t ty b off m : Nat} {l us : List Value} {e : TypeId} {fr : Nat × Nat} {rs : List ResultVar} {vs : List Value} :
      IsAgg P ty true → SizeOf P ty m → ρ.get? t = some (.pointer (some ⟨b, off, none⟩)) → At R L b (.cells l.toArray e fr) → seg? l off m = some us → ResOk P R ρ L rs vs → ResOk P R ρ L (.cell t ty :: rs) (.agg us.toArray :: vs)
theorem ResOk.cell {T : Tab} (hT : TabOk P T) {t ty b off : Nat} {l : List Value} {e : TypeId} {fr : Nat × Nat} {v : Value} {rs : List ResultVar} {vs : List Value}
    (h : ρ.get? t = some (.pointer (some ⟨b, off, none⟩))) (hb : At R L b (.cells l.toArray e fr)) (hv : ldv? T ty l off = some v) (hr : ResOk P R ρ L rs vs) : ResOk P R ρ L (.cell t ty :: rs) (v :: vs) := by
  unfold ldv? at hv
  split at hv
  · rename_i m hm
    exact .cell1 (hT.tys _ (look?_mem hm)).1 h hb hv hr
  · rename_i m hm
    split at hv
    · rename_i us hus
      cases hv
      exact .cellN (hT.tys _ (look?_mem hm)).1 (hT.tys _ (look?_mem hm)).2 h hb hus hr
    · cases hv
  · cases hv
def pack : List Value → Value
  | [v] => v
  | vs => .tuple vs.toArray
def resF (a : Act) : ResultVar → Sem Value
  | .tmp t => pure (a.tmps.getD t undef)
  | .cell p t => do loadVar t (← asAddr (a.tmps.getD p undef))
theorem mapM_step {f : ResultVar → Sem Value} {r : ResultVar} {rs : List ResultVar} {v : Value} {vs : List Value} {w : World} (h1 : (f r).run P w = .ok v w) (h2 : (rs.mapM f).run P w = .ok vs w) :
    ((r :: rs).mapM f).run P w = .ok (v :: vs) w := by
  rw [List.mapM_cons, Sem.run_bind, h1]
  simp only [Result.andThen_ok]
  rw [Sem.run_bind, h2]
  rfl
theorem ResOk.run {rs : List ResultVar} {vs : List Value} (h : ResOk P R ρ L rs vs) {a : Act} {w : World} (hf : Fits n ρ a) {w0 : World} {S0 : List Nat} (hs : St w0 S0 R L w) :
    (rs.mapM (resF a)).run P w = .ok vs w := by
  induction h with
  | nil => rfl
  | tmp h1 _ ih =>
    refine mapM_step ?_ ih
    simp only [resF, hf.at_ _ _ h1]
    rfl
  | @cell1 t ty b off l e fr v rs vs ht h1 hb hv _ ih =>
    have hc : w.cell? ⟨b, off, none⟩ = some v := by rw [cell_of_row w b off _ e fr (hb.heap hs)]; simpa using hv
    refine mapM_step ?_ ih
    simp only [resF, hf.at_ _ _ h1]
    simp [asAddr, loadVar, ht w, hc]
  | @cellN t ty b off m l us e fr rs vs ht hz h1 hb hv _ ih =>
    have hl := run_loadCells_seg (P := P) (hb.heap hs) hv
    refine mapM_step ?_ ih
    simp only [resF, hf.at_ _ _ h1]
    simp [asAddr, loadVar, ht w, hz w, hl]

theorem W.ret (h : Fin n R cx ρ L) : W P n R cx (.code .ret :: k) ρ L := ⟨fun a w hf hs => wp_ret (mean_ret k a w (h.go a w hf hs))⟩

def EnvOk (args : List Value) : Env → Prop
  | [] => True
  | (t, v) :: r => args[t]? = some v ∧ EnvOk args r
theorem EnvOk.get {args : List Value} : ∀ {ρ : Env}, EnvOk args ρ → ∀ {t : Nat} {v : Value}, ρ.get? t = some v → args[t]? = some v
  | [], _, _, _, h => by cases h
  | (k, u) :: r, he, t, v, h => by
    simp only [Env.get?] at h
    split at h
    · rename_i hk; subst hk; cases h; exact he.1
    · exact EnvOk.get he.2 h

/-- The results, and the chunks that are given. -/
structure FinOk (P : Program) (R : HL) (rs : List ResultVar) (post : Value → List HL → Prop) (ρ : Env) (L : List HL) : Prop where
  go : ∃ vs L', ResOk P R ρ L rs vs ∧ (∃ X : HL, L.flatten.Perm (L'.flatten ++ X)) ∧ post (pack vs) L'
theorem FinOk.mk' {rs : List ResultVar} {post : Value → List HL → Prop} {vs : List Value} {M X : List HL} (L' : List HL) (h : ResOk P R ρ L rs vs) (hsel : Sel L M X) (hm : M.flatten = L'.flatten)
    (hp : post (pack vs) L') : FinOk P R rs post ρ L := ⟨⟨vs, L', h, ⟨X.flatten, by rw [← hm]; exact hsel.perm⟩, hp⟩⟩

theorem Ctr.enter {f : FuncId} {fn : Func} {c : Code} {args : List Value} {pre : List HL} {ro : HL} {post : Value → List HL → Prop} (rs : List ResultVar) (ρ0 : Env)
    (hf : P.funcs[f]? = some fn) (hb : fn.body = some c) (hn : fn.ntmps = n) (hr : fn.results.toList = rs) (hl : args.length ≤ n)
    (hcall : ∀ (args : Array Value) (w : World), (callFunc f args).run P w = .ok (.enter f args) w) (he : EnvOk args ρ0)
    (h : ∀ cx : Cx, (∀ ρ L, FinOk P ro rs post ρ L → Fin n ro cx ρ L) → (∀ ρ L, FinOk P ro rs post ρ L → W P n ro cx [] ρ L) → W P n ro cx [.code c] ρ0 pre) : Ctr P f args pre ro post := by
  refine ⟨hcall, fun w hhas hnd hro => ?_⟩
  refine calls_of_wp hf hb ?_
  let Rr : Ending → World → Prop := fun e w' => ∃ v L', e = .returned v ∧ post v L' ∧ St w (ids pre.flatten) ro L' w'
  let cx : Cx := ⟨w, ids pre.flatten, bodyPost P fn Rr⟩
  have fin : ∀ (ρ : Env) (L : List HL) a w', FinOk P ro rs post ρ L → Fits n ρ a → St w (ids pre.flatten) ro L w' → a.defers = [] ∧ ∃ v, (results fn a.tmps).run P w' = .ok v w' ∧ Rr (.returned v) w' := by
    intro ρ L a w' hfin hfi hs
    obtain ⟨vs, L', hres, ⟨X, hX⟩, hpost⟩ := hfin.go
    have hrun := hres.run (P := P) hfi hs
    refine ⟨hfi.df, pack vs, ?_, pack vs, L', rfl, hpost, hs.perm hX⟩
    have hm : (fn.results.mapM (resF a) : Sem (Array Value)).run P w' = .ok vs.toArray w' := by
      rw [Array.mapM_eq_mapM_toList, hr]
      simp only [Sem.run_map]
      rw [hrun]
      rfl
    have hres' : results fn a.tmps = (do let vs ← fn.results.mapM (resF a); pure (if h : vs.size = 1 then vs[0] else .tuple vs) : Sem Value) := by
      unfold results
      congr 1
    rw [hres', Sem.run_bind, hm]
    match vs with
    | [] => rfl
    | [v] => rfl
    | v :: u :: r => simp [pack]
  have hW := h cx (fun ρ L hfin => ⟨fun a w' hfi hs => fin ρ L a w' hfin hfi hs⟩) (fun ρ L hfin => ⟨fun a w' hfi hs => fin ρ L a w' hfin hfi hs⟩)
  have hst : St w (ids pre.flatten) ro pre w := ⟨hhas, hnd, fun _ _ _ => rfl, fun b hb => .inl hb, Nat.le_refl _, hro, ⟨rfl, rfl, rfl⟩⟩
  have hfit : Fits n ρ0 { tmps := args.toArray ++ Array.replicate (fn.ntmps - args.toArray.size) undef, defers := [] } := by
    refine ⟨rfl, by simp [hn]; omega, fun t v ht => ?_⟩
    have h1 := he.get ht
    have hlt := (List.getElem?_eq_some_iff.1 h1).1
    have h2 := (List.getElem?_eq_some_iff.1 h1).2
    simp [Array.getElem?_append, hlt, h2]
  have := hW.go _ w hfit hst
  exact this
end
end Go.Sl
