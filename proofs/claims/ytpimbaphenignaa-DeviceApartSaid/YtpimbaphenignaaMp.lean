/-
  More rules: chunks split and joined; make of elements of many cells; maps whose keys are integers; slices as arrays; over any program.
-/
import Derived.Test.YtpimbaphenignaaSd
import Derived.MapKept
import Derived.Carry
namespace Go.Sl
open Go
section
variable {P : Program} {n : Nat} {R : HL} {cx : Cx} {k : List Kont} {ρ : Env} {L : List HL}

/-! ### Chunks split and joined -/
def burst : HL → List HL
  | [] => []
  | p :: r => [p] :: burst r
theorem burst_flat : ∀ c : HL, (burst c).flatten = c
  | [] => rfl
  | p :: r => by simp [burst, burst_flat r]
def burstAt? : Nat → List HL → Option (List HL)
  | _, [] => none
  | 0, c :: L => some (burst c ++ L)
  | i + 1, c :: L => match burstAt? i L with
    | some M => some (c :: M)
    | none => none
theorem burstAt?_flat : ∀ {i : Nat} {L M : List HL}, burstAt? i L = some M → L.flatten = M.flatten
  | _, [], _, h => by simp [burstAt?] at h
  | 0, c :: L, M, h => by simp only [burstAt?, Option.some.injEq] at h; subst h; simp [burst_flat]
  | i + 1, c :: L, M, h => by
    simp only [burstAt?] at h
    split at h
    · rename_i M' hM
      cases h
      simp [burstAt?_flat hM]
    · cases h
/-- The first k blocks of a chunk, each by itself; what is left stays together. -/
def firsts : Nat → HL → Option (List HL)
  | 0, c => some [c]
  | _ + 1, [] => none
  | k + 1, p :: r => match firsts k r with
    | some A => some ([p] :: A)
    | none => none
theorem firsts_flat : ∀ {k : Nat} {c : HL} {A : List HL}, firsts k c = some A → A.flatten = c
  | 0, c, A, h => by simp only [firsts, Option.some.injEq] at h; subst h; simp
  | _ + 1, [], A, h => by simp [firsts] at h
  | k + 1, p :: r, A, h => by
    simp only [firsts] at h
    split at h
    · rename_i A' hA
      cases h
      simp [firsts_flat hA]
    · cases h
def firstsAt? (k : Nat) : Nat → List HL → Option (List HL)
  | _, [] => none
  | 0, c :: L => match firsts k c with
    | some A => some (A ++ L)
    | none => none
  | i + 1, c :: L => match firstsAt? k i L with
    | some M => some (c :: M)
    | none => none
theorem firstsAt?_flat {k : Nat} : ∀ {i : Nat} {L M : List HL}, firstsAt? k i L = some M → L.flatten = M.flatten
  | _, [], _, h => by simp [firstsAt?] at h
  | 0, c :: L, M, h => by
    simp only [firstsAt?] at h
    split at h
    · rename_i A hA
      cases h
      simp [firsts_flat hA]
    · cases h
  | i + 1, c :: L, M, h => by
    simp only [firstsAt?] at h
    split at h
    · rename_i M' hM
      cases h
      simp [firstsAt?_flat hM]
    · cases h
theorem W.split (i : Nat) {M : List HL} (h : burstAt? i L = some M) (hk : W P n R cx k ρ M) : W P n R cx k ρ L := W.regroup (burstAt?_flat h) hk
theorem W.splitN (m i : Nat) {M : List HL} (h : firstsAt? m i L = some M) (hk : W P n R cx k ρ M) : W P n R cx k ρ L := W.regroup (firstsAt?_flat h) hk
def remove? : Nat → List HL → Option (HL × List HL)
  | _, [] => none
  | 0, c :: L => some (c, L)
  | i + 1, c :: L => match remove? i L with
    | some (d, M) => some (d, c :: M)
    | none => none
theorem remove?_perm : ∀ {i : Nat} {L M : List HL} {d : HL}, remove? i L = some (d, M) → L.flatten.Perm (d ++ M.flatten)
  | _, [], _, _, h => by simp [remove?] at h
  | 0, c :: L, M, d, h => by simp only [remove?, Option.some.injEq, Prod.mk.injEq] at h; obtain ⟨rfl, rfl⟩ := h; simp
  | i + 1, c :: L, M, d, h => by
    simp only [remove?] at h
    split at h
    · rename_i d' M' hM
      cases h
      have ih := remove?_perm hM
      simp only [List.flatten_cons]
      refine (List.Perm.append_left c ih).trans ?_
      rw [← List.append_assoc, ← List.append_assoc]
      exact List.Perm.append_right _ List.perm_append_comm
    · cases h
/-- The chunks at the places 'is' (each counted among those that are left), joined. -/
def gather : List Nat → List HL → Option (HL × List HL)
  | [], L => some ([], L)
  | [i], L => remove? i L
  | i :: is, L => match remove? i L with
    | none => none
    | some (c, L1) => match gather is L1 with
      | none => none
      | some (d, L2) => some (c ++ d, L2)
theorem gather_perm : ∀ {is : List Nat} {L M : List HL} {d : HL}, gather is L = some (d, M) → L.flatten.Perm (d ++ M.flatten)
  | [], L, M, d, h => by simp only [gather, Option.some.injEq, Prod.mk.injEq] at h; obtain ⟨rfl, rfl⟩ := h; simp
  | [i], L, M, d, h => remove?_perm h
  | i :: i2 :: is, L, M, d, h => by
    simp only [gather] at h
    split at h
    · cases h
    · rename_i c L1 hr
      split at h
      · cases h
      · rename_i d' L2 hg
        cases h
        rw [List.append_assoc]
        exact (remove?_perm hr).trans (List.Perm.append_left c (gather_perm (is := i2 :: is) hg))
theorem W.groupV (is : List Nat) {d : HL} {M : List HL} (h : gather is L = some (d, M)) (hk : W P n R cx k ρ (d :: M)) : W P n R cx k ρ L :=
  ⟨fun a w hf hs => hk.go a w hf (hs.perm (X := []) (by simpa using gather_perm h))⟩
theorem W.group (is : List Nat) {d d' : HL} {M : List HL} (h : gather is L = some (d, M)) (hd : norm? d = some d') (hk : W P n R cx k ρ (d' :: M)) : W P n R cx k ρ L := by
  have := norm?_eq hd
  subst this
  exact ⟨fun a w hf hs => hk.go a w hf (hs.perm (X := []) (by simpa using gather_perm h))⟩
/-- The function's end: what it gives are the first m chunks. -/
def front? : Nat → List HL → Option (List HL × List HL)
  | 0, L => some ([], L)
  | _ + 1, [] => none
  | m + 1, c :: L => match front? m L with
    | some (A, B) => some (c :: A, B)
    | none => none
theorem front?_flat : ∀ {m : Nat} {L A B : List HL}, front? m L = some (A, B) → L.flatten = A.flatten ++ B.flatten
  | 0, L, A, B, h => by simp only [front?, Option.some.injEq, Prod.mk.injEq] at h; obtain ⟨rfl, rfl⟩ := h; simp
  | _ + 1, [], _, _, h => by simp [front?] at h
  | m + 1, c :: L, A, B, h => by
    simp only [front?] at h
    split at h
    · rename_i A' B' hf
      cases h
      simp [front?_flat hf]
    · cases h
theorem FinOk.first {rs : List ResultVar} {post : Value → List HL → Prop} {vs : List Value} {A B : List HL} (m : Nat) (h : ResOk P R ρ L rs vs) (hm : front? m L = some (A, B)) (hp : post (pack vs) A) : FinOk P R rs post ρ L :=
  ⟨⟨vs, A, h, ⟨B.flatten, by rw [front?_flat hm]⟩, hp⟩⟩
theorem RoIn.all {R : HL} {rest : List HL} {ro : HL} (h : ∀ p ∈ ro, p ∈ R) : RoIn R rest ro := fun p hp => .inr (h p hp)

theorem W.nw {all : Array Oper} {d : Nat} {op : Op} {ty : TypeId} {pos : String} {af : Array Edge} {l : List Oper} {o : Obj} {f : Nat → Value} (h : NewOf P n R cx op ty ρ L o f) (hd : d < n)
    (hk : ∀ b, W P n R cx (.ops all l :: k) ((d, f b) :: ρ) ([(b, o)] :: L)) : W P n R cx (.ops all (⟨some d, op, ty, pos, af, none⟩ :: l) :: k) ρ L := W.newOf h.go hd hk
theorem RoIn.ownSub {rest : List HL} {H ro : HL} (i : Nat) (h : rest[i]? = some H) (hs : ∀ p ∈ ro, p ∈ H) : RoIn R rest ro := fun p hp => .inl (List.mem_flatten.2 ⟨_, List.mem_of_getElem? h, hs p hp⟩)
theorem W.nilChunk (hk : W P n R cx k ρ ([] :: L)) : W P n R cx k ρ L := W.regroup (by simp) hk
theorem app {T : Tab} (hT : TabOk P T) {t e m bytes ty : Nat} {s x : Operand} {cs news : List Value} {a : Option Addr} {len cap nx cxx bx ox : Nat} {H : HL} {lx : List Value} {ex : TypeId} {frx : Nat × Nat}
    (ht : look? T.sls t = some e) (hi : look? T.infs e = some (m, bytes)) (hs : ev? ρ s = some (.slice a len cap)) (ho : Own m e cs a len cap H)
    (hH : ∀ p ∈ H, p ∈ L.flatten) (hx : ev? ρ x = some (.slice (some ⟨bx, ox, none⟩) nx cxx)) (hb : At R L bx (.cells lx.toArray ex frx)) (hn : seg? lx ox (nx * m) = some news)
    (h1 : allOne news = true) (hbig : (len + nx) * bytes ≤ 140737488355328) (hbig2 : len + nx ≤ 140737488355328) :
    Prim P n R cx (.call ⟨.builtin .append, #[s, x], #[t, t]⟩) ty ρ L [H] (fun v L' => ∃ a' cap' H', v = .slice a' (len + nx) cap' ∧ L' = [H'] ∧ Own m e (cs ++ news) a' (len + nx) cap' H') :=
  append_some (hT.infs _ (look?_mem hi)) (hT.sls _ (look?_mem ht)) hs ho hH hx hb hn h1 hbig hbig2
theorem Own.roSl {m e : Nat} {cs : List Value} {a : Option Addr} {len cap : Nat} {H : HL} (h : Own m e cs a len cap H) : RoSl m cs a len H := by
  rcases h.2 with ⟨rfl, rfl, rfl, rfl⟩ | ⟨b, l, rfl, rfl, h1, h2, h3⟩
  · exact ⟨h.1, .inl ⟨rfl, rfl⟩⟩
  · exact ⟨h.1, .inr ⟨b, 0, l, e, (0, 0), rfl, rfl, by rw [h2, Nat.zero_add]; exact Nat.mul_le_mul_right _ h1, by simpa using h3⟩⟩
/-! ### make -/
theorem NewOf.makeN {e m bytes : Nat} {t ty : TypeId} {x y : Operand} {z : Value} {zs : List Value} {kl kc : IntKind} {len cap : Nat} {il ic : Int}
    (hi : InfOk P e m bytes) (hz : ZeroOf P e z) (hzc : cells? z = some zs) (hzl : zs.length = m) (ht : P.underlying t = some (.slice e))
    (hx : ev? ρ x = some (.int kl il)) (hy : ev? ρ y = some (.int kc ic)) (hl : il = (len : Int)) (hc : ic = (cap : Int)) (hlc : len ≤ cap) (hb : bytes * cap ≤ 281474976710656) (hb2 : cap ≤ 281474976710656) :
    NewOf P n R cx (.makeSlice t x y) ty ρ L (.cells (repL cap zs).toArray e (0, 0)) (fun b => .slice (some ⟨b, 0, none⟩) len cap) := by
  obtain ⟨i, z', hi1, hi2, rfl, rfl, hi5, hi6⟩ := hi
  have hzz : z' = z := by
    have := hz default
    simp [zeroValue, typeInfo, hi1, hi2] at this
    exact this
  subst hzz
  have hcz := cells?_eq hzc
  refine ⟨fun oo a w ho hty hf hs => ⟨w.drawn, ?_⟩⟩
  subst hl hc
  have hr := run_make (P := P) w t e i z' ht hi1 hi2 kl kc len cap (by omega) (by omega) (by have : ((i.bytes * cap : Nat) : Int) ≤ 281474976710656 := by omega
                                                                                             rwa [Int.natCast_mul] at this) (by omega)
  unfold execOp; rw [ho]
  show _ = Result.ok _ (w.alloc _)
  simp only [hf.ev hx, hf.ev hy, Sem.run_bind, hr, Result.andThen_ok, Sem.run_pure, Int.toNat_natCast]
  have : madeCells z'.cells (cap * i.size) = (repL cap zs).toArray := by
    apply Array.ext'
    have h1 := repL_eq zs i.size hzl hi6 cap
    rw [← h1]
    simp [madeCells, hcz, hzl]
  rw [this]
theorem NewOf.mks {T : Tab} (hT : TabOk P T) {t e ty m bytes : Nat} {x y : Operand} {z : Value} {zs : List Value} {kl kc : IntKind} {len cap : Nat} {il ic : Int}
    (ht : look? T.sls t = some e) (hi : look? T.infs e = some (m, bytes)) (hz : look? T.zeros e = some z) (hzc : cells? z = some zs) (hzl : zs.length = m)
    (hx : ev? ρ x = some (.int kl il)) (hy : ev? ρ y = some (.int kc ic)) (hl : il = (len : Int)) (hc : ic = (cap : Int)) (hlc : len ≤ cap) (hb : bytes * cap ≤ 281474976710656) (hb2 : cap ≤ 281474976710656) :
    NewOf P n R cx (.makeSlice t x y) ty ρ L (.cells (repL cap zs).toArray e (0, 0)) (fun b => .slice (some ⟨b, 0, none⟩) len cap) :=
  NewOf.makeN (hT.infs _ (look?_mem hi)) (hT.zeros _ (look?_mem hz)) hzc hzl (hT.sls _ (look?_mem ht)) hx hy hl hc hlc hb hb2
theorem repL_len (l : List Value) : ∀ j, (repL j l).length = j * l.length
  | 0 => by simp [repL]
  | j + 1 => by simp [repL, repL_len l j, Nat.add_mul]; omega

/-! ### Maps whose keys are integers -/
theorem map_eraseIdx {α β : Type} (f : α → β) : ∀ (l : List α) (j : Nat), (l.eraseIdx j).map f = (l.map f).eraseIdx j
  | [], _ => by simp
  | _ :: _, 0 => by simp
  | x :: l, j + 1 => by simp [map_eraseIdx f l j]
section
variable {α : Type}
def mget : List (Int × α) → Int → Option α
  | [], _ => none
  | (a, v) :: r, x => if a = x then some v else mget r x
def mput : List (Int × α) → Int → α → List (Int × α)
  | [], x, v => [(x, v)]
  | (a, u) :: r, x, v => if a = x then (x, v) :: r else (a, u) :: mput r x v
def mdel : List (Int × α) → Int → List (Int × α)
  | [], _ => []
  | (a, u) :: r, x => if a = x then r else (a, u) :: mdel r x
/-- The map's block holds m: keys of kind kk, values by f. -/
def MapIs (kk : IntKind) (f : α → Value) (es : List MapEntry) (m : List (Int × α)) : Prop := es.map (fun e => (e.key, e.val)) = m.map (fun p => (Value.int kk p.1, f p.2))
theorem find_spec {kk k' : IntKind} {f : α → Value} (x : Int) : ∀ (es : List MapEntry) (m : List (Int × α)) (i : Nat), MapIs kk f es m →
    (mget m x = none ∧ Instr.findNow (.int k') (.int kk x) es i = some none ∧ (∀ v, mput m x v = m ++ [(x, v)]) ∧ mdel m x = m) ∨
    ∃ j v e, mget m x = some v ∧ Instr.findNow (.int k') (.int kk x) es i = some (some (i + j, f v)) ∧ es[j]? = some e ∧ e.key = .int kk x ∧ j < m.length ∧ (∀ u, mput m x u = m.set j (x, u)) ∧ mdel m x = m.eraseIdx j
  | [], [], i, _ => .inl ⟨rfl, rfl, fun _ => rfl, rfl⟩
  | [], _ :: _, i, h => by simp [MapIs] at h
  | _ :: _, [], i, h => by simp [MapIs] at h
  | e :: es, (a, u) :: m, i, h => by
    simp only [MapIs, List.map_cons, List.cons.injEq, Prod.mk.injEq] at h
    obtain ⟨⟨h1, h2⟩, h3⟩ := h
    by_cases ha : a = x
    · subst ha
      refine .inr ⟨0, u, e, by simp [mget], by simp [Instr.findNow, Instr.sameNow, h1, h2], rfl, h1, by simp, fun v => by simp [mput], by simp [mdel]⟩
    · have hne : (x == a) = false := by simpa using fun h => ha h.symm
      rcases find_spec (kk := kk) (k' := k') (f := f) x es m (i + 1) h3 with ⟨g1, g2, g3, g4⟩ | ⟨j, v, e', g1, g2, g3, g4, g5, g6, g7⟩
      · exact .inl ⟨by simp [mget, ha, g1], by simp [Instr.findNow, Instr.sameNow, h1, hne, g2], fun v => by simp [mput, ha, g3], by simp [mdel, ha, g4]⟩
      · refine .inr ⟨j + 1, v, e', by simp [mget, ha, g1], ?_, by simpa using g3, g4, by simpa using g5, fun v => by simp [mput, ha, g6], by simp [mdel, ha, g7]⟩
        simp only [Instr.findNow, Instr.sameNow, h1, if_true, hne, g2]
        rw [show i + 1 + j = i + (j + 1) from by omega]
variable {f : α → Value}
theorem OpVal.lookup2 {t kt et ty : TypeId} {x y : Operand} {b clock : Nat} {es : Array MapEntry} {m : List (Int × α)} {kk : IntKind} {key : Int} {z : Value}
    (ht : P.underlying t = some (.map kt et)) (hk : P.underlying kt = some (.int kk)) (hz : ZeroOf P et z) (hx : ev? ρ x = some (.map (some b))) (hy : ev? ρ y = some (.int kk key))
    (hb : At R L b (.map es clock)) (hm : MapIs kk f es.toList m) :
    OpVal P n R cx (.lookup t x y true) ty ρ L (.tuple #[match mget m key with | some v => f v | none => z, .bool (mget m key).isSome]) := by
  refine ⟨fun oo a w ho hty hf hs => ?_⟩
  have hg := MapKept.run_getObj_map (P := P) (hb.heap hs)
  have hck := fun e => MapKept.run_checkKey (P := P) (w := w) (k := .int kk key) hk (by simp [MapKept.IsKey]) e 9999
  unfold execOp; rw [ho]
  rcases find_spec (k' := kk) key es.toList m 0 hm with ⟨g1, g2, _, _⟩ | ⟨j, v, e, g1, g2, _, _, _, _, _⟩
  · simp [Instr.lookup, hf.ev hx, hf.ev hy, run_underlying ht, hg, hck, MapKept.run_findKey hk g2, hz w, g1, Result.andThen]
  · simp [Instr.lookup, hf.ev hx, hf.ev hy, run_underlying ht, hg, hck, MapKept.run_findKey hk g2, g1, Result.andThen]
/-- A map's block, known up to how it came to hold m. -/
def IsMp (kk : IntKind) (f : α → Value) (m : List (Int × α)) (b : Nat) (H : HL) : Prop := ∃ es clock, H = [(b, .map es clock)] ∧ MapIs kk f es.toList m
theorem St.setO (w : World) (i b : Nat) (o o' : Obj) (hg : w.heap[b]? = some o) : St w [b] [] [[(b, o')]] { w with heap := w.heap.setIfInBounds b o', drawn := i } := by
  refine ⟨?_, by simp [ids], ?_, ?_, by simp, fun _ h => (by cases h), ⟨rfl, rfl, rfl⟩⟩
  · intro p hp
    simp at hp
    subst hp
    exact (MapKept.heap_set hg).1
  · intro j _ hj
    exact (MapKept.heap_set hg).2 j (by simpa using hj)
  · intro j hj
    simp [ids] at hj
    simp [hj]
/-- An operation that yields nothing and turns some chunks. -/
structure Skips (P : Program) (n : Nat) (R : HL) (cx : Cx) (op : Op) (ty : TypeId) (ρ : Env) (L : List HL) (pre : List HL) (post : List HL → Prop) : Prop where
  go : ∀ (oo : Oper) a w, oo.op = op → oo.type = ty → Fits n ρ a → St cx.w0 cx.S0 R L w → ∃ L' w', (execOp a.eval oo).run P w = .ok .skip w' ∧ post L' ∧ St w (ids pre.flatten) [] L' w'
theorem W.skips {all : Array Oper} {op : Op} {ty : TypeId} {pos : String} {af : Array Edge} {l : List Oper} {pre rest : List HL} {post : List HL → Prop}
    (h : Skips P n R cx op ty ρ L pre post) (hsel : Sel L pre rest) (hk : ∀ L', post L' → W P n R cx (.ops all l :: k) ρ (L' ++ rest)) :
    W P n R cx (.ops all (⟨none, op, ty, pos, af, none⟩ :: l) :: k) ρ L := by
  refine ⟨fun a w hf hs => ?_⟩
  obtain ⟨L', w', hr, hp, hst⟩ := h.go ⟨none, op, ty, pos, af, none⟩ a w rfl rfl hf hs
  simp only [mean, wpList, Region.wanted, if_true]
  refine .inl ?_
  unfold Oper.wp
  rw [hr]
  exact (hk L' hp).go _ _ (by simpa [Act.put] using hf) (hs.call hsel hst)
theorem mapPut {t kt et ty : TypeId} {x y u : Operand} {b : Nat} {m : List (Int × α)} {kk : IntKind} {key : Int} {v : α} {H : HL}
    (ht : P.underlying t = some (.map kt et)) (hk : P.underlying kt = some (.int kk)) (hx : ev? ρ x = some (.map (some b))) (hy : ev? ρ y = some (.int kk key)) (hu : ev? ρ u = some (f v))
    (hH : ∀ p ∈ H, p ∈ L.flatten) (hm : IsMp kk f m b H) : Skips P n R cx (.mapUpdate t x y u) ty ρ L [H] (fun L' => ∃ H', L' = [H'] ∧ IsMp kk f (mput m key v) b H') := by
  obtain ⟨es, clock, rfl, hm⟩ := hm
  refine ⟨fun oo a w ho hty hf hs => ?_⟩
  have hb := hs.has (b, .map es clock) (hH _ (by simp))
  have hg := MapKept.run_getObj_map (P := P) hb
  have hik : MapKept.IsKey (.int kk) (.int kk key) := by simp [MapKept.IsKey]
  have hck := fun e => MapKept.run_checkKey (P := P) (w := w) (k := .int kk key) hk hik e 9999
  rcases find_spec (k' := kk) key es.toList m 0 hm with ⟨g1, g2, g3, _⟩ | ⟨j, v0, e, g1, g2, g3, g4, g5, g6, _⟩
  · refine ⟨_, { w with heap := w.heap.setIfInBounds b (.map (es.push { key := .int kk key, val := f v, born := clock }) (clock + 1)) }, ?_, ⟨_, rfl, es.push { key := .int kk key, val := f v, born := clock }, clock + 1, rfl, ?_⟩, ?_⟩
    · unfold execOp; rw [ho]
      simp [Instr.mapUpdate, hf.ev hx, hf.ev hy, hf.ev hu, run_underlying ht, hg, hck, MapKept.run_findKey hk g2, MapKept.run_setObj_map _ hb, Result.andThen]
    · unfold MapIs at hm ⊢
      rw [g3]
      simp [hm]
    · simpa [ids] using St.setO w w.drawn b _ (.map (es.push { key := .int kk key, val := f v, born := clock }) (clock + 1)) hb
  · have hes : es[0 + j]? = some e := by simpa using g3
    refine ⟨_, { w with heap := w.heap.setIfInBounds b (.map (es.modify (0 + j) fun e => { e with key := .int kk key, val := f v }) clock) }, ?_, ⟨_, rfl, es.modify (0 + j) fun e => { e with key := .int kk key, val := f v }, clock, rfl, ?_⟩, ?_⟩
    · unfold execOp; rw [ho]
      simp [Instr.mapUpdate, hf.ev hx, hf.ev hy, hf.ev hu, run_underlying ht, hg, hck, MapKept.run_findKey hk g2, Result.andThen]
      have hes' : es[j]? = some e := by simpa using g3
      simp [hes', g4, MapKept.run_keyThatStays hik, MapKept.run_setObj_map _ hb]
    · unfold MapIs at hm ⊢
      rw [g6, List.map_set, ← hm, Nat.zero_add]
      apply List.ext_getElem?
      intro q
      simp only [Array.toList_modify, List.getElem?_map, List.getElem?_modify, List.getElem?_set]
      have hjl : j < es.toList.length := (List.getElem?_eq_some_iff.1 g3).1
      by_cases hq : j = q
      · subst hq
        simp only [List.length_map, hjl, if_true]
        rw [g3]
        rfl
      · simp [hq]
    · simpa [ids] using St.setO w w.drawn b _ (.map (es.modify (0 + j) fun e => { e with key := .int kk key, val := f v }) clock) hb
theorem mapDel {t kt et ty : TypeId} {x y : Operand} {b : Nat} {m : List (Int × α)} {kk : IntKind} {key : Int} {H : HL}
    (ht : P.underlying t = some (.map kt et)) (hk : P.underlying kt = some (.int kk)) (hx : ev? ρ x = some (.map (some b))) (hy : ev? ρ y = some (.int kk key))
    (hH : ∀ p ∈ H, p ∈ L.flatten) (hm : IsMp kk f m b H) : Prim P n R cx (.call ⟨.builtin .delete, #[x, y], #[t, kt]⟩) ty ρ L [H] (fun _ L' => ∃ H', L' = [H'] ∧ IsMp kk f (mdel m key) b H') := by
  obtain ⟨es, clock, rfl, hm⟩ := hm
  refine ⟨fun oo a w ho hty hf hs => ?_⟩
  have hb := hs.has (b, .map es clock) (hH _ (by simp))
  have hg := MapKept.run_getObj_map (P := P) hb
  have hik : MapKept.IsKey (.int kk) (.int kk key) := by simp [MapKept.IsKey]
  have hck := fun e => MapKept.run_checkKey (P := P) (w := w) (k := .int kk key) hk hik e 9999
  rcases find_spec (k' := kk) key es.toList m 0 hm with ⟨g1, g2, _, g3⟩ | ⟨j, v0, e, g1, g2, g3, g4, g5, _, g6⟩
  · refine ⟨.tuple #[], _, { w with heap := w.heap.setIfInBounds b (.map es clock) }, ?_, ⟨_, rfl, es, clock, rfl, by rw [g3]; exact hm⟩, ?_⟩
    · unfold execOp; rw [ho]
      simp [resolve, invoke, builtin, Builtin.delete_, hf.ev hx, hf.ev hy, run_underlying ht, hg, hck, MapKept.run_findKey hk g2, MapKept.run_setObj_map _ hb, Result.andThen]
    · simpa [ids] using St.setO w w.drawn b _ (.map es clock) hb
  · refine ⟨.tuple #[], _, { w with heap := w.heap.setIfInBounds b (.map (es.eraseIdxIfInBounds (0 + j)) clock) }, ?_, ⟨_, rfl, es.eraseIdxIfInBounds (0 + j), clock, rfl, ?_⟩, ?_⟩
    · unfold execOp; rw [ho]
      simp [resolve, invoke, builtin, Builtin.delete_, hf.ev hx, hf.ev hy, run_underlying ht, hg, hck, MapKept.run_findKey hk g2, MapKept.run_setObj_map _ hb, Result.andThen]
    · unfold MapIs at hm ⊢
      rw [g6, map_eraseIdx, ← hm, Nat.zero_add, Array.toList_eraseIdxIfInBounds, map_eraseIdx]
    · simpa [ids] using St.setO w w.drawn b _ (.map (es.eraseIdxIfInBounds (0 + j)) clock) hb
theorem mapClear {t kt et ty : TypeId} {x : Operand} {b : Nat} {m : List (Int × α)} {kk : IntKind} {H : HL}
    (ht : P.underlying t = some (.map kt et)) (hx : ev? ρ x = some (.map (some b))) (hH : ∀ p ∈ H, p ∈ L.flatten) (hm : IsMp kk f m b H) :
    Prim P n R cx (.call ⟨.builtin .clear, #[x], #[t]⟩) ty ρ L [H] (fun _ L' => ∃ H', L' = [H'] ∧ IsMp kk f [] b H') := by
  obtain ⟨es, clock, rfl, hm⟩ := hm
  refine ⟨fun oo a w ho hty hf hs => ?_⟩
  have hb := hs.has (b, .map es clock) (hH _ (by simp))
  have hg := MapKept.run_getObj_map (P := P) hb
  refine ⟨.tuple #[], _, { w with heap := w.heap.setIfInBounds b (.map #[] clock) }, ?_, ⟨_, rfl, #[], clock, rfl, by simp [MapIs]⟩, ?_⟩
  · unfold execOp; rw [ho]
    simp [resolve, invoke, builtin, Builtin.clear_, hf.ev hx, run_underlying ht, hg, MapKept.run_setObj_map _ hb, Result.andThen]
  · simpa [ids] using St.setO w w.drawn b _ (.map #[] clock) hb
end
theorem NewOf.map {t ty : TypeId} : NewOf P n R cx (.makeMap t none) ty ρ L (.map #[] 0) (fun b => .map (some b)) := by
  refine ⟨fun oo a w ho hty hf hs => ⟨w.drawn, ?_⟩⟩
  unfold execOp; rw [ho]
  show _ = Result.ok _ (w.alloc _)
  have : (Instr.makeMap t none).run P w = .ok (.map (some w.heap.size)) (w.alloc (.map #[] 0)) := rfl
  simp [this]
/-- A slice seen as an array, through a pointer. -/
theorem OpVal.slAr {T : Tab} (hT : TabOk P T) {t e ty : TypeId} {x : Operand} {a : Option Addr} {len cap m : Nat} (ht : look? T.ars t = some (m, e)) (hx : ev? ρ x = some (.slice a len cap)) (hl : m ≤ len) :
    OpVal P n R cx (.sliceToArrayPointer t x) ty ρ L (.pointer a) := by
  refine ⟨fun oo ac w ho hty hf hs => ?_⟩
  have hu := hT.ars _ (look?_mem ht)
  unfold execOp; rw [ho]
  simp [Instr.arrayAt, underlying, hu, hf.ev hx, Nat.not_lt.2 hl]
end
end Go.Sl
