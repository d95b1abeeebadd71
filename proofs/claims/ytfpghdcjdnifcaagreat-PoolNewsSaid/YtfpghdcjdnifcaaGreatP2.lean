/-
  The walks of this claim and the rules that they use, part two: each theorem is a contract of one function, or what such a proof asks.
-/
import Derived.Test.YtfpghdcjdnifcaaGreatP1
import Derived.MapKept
import Derived.Carry
import Derived.Laws.BytesString
import Derived.IntWalk
import Derived.Test.YtfpghdcjdnifcaaGreatRows
import Derived.ProofKit
import Derived.Deep.Slices
import Derived.Laws.StructEq
import Derived.ChangeKeysEq
import Derived.Sort.Grow
import Derived.Deep.Draws
import Derived.Lib.LaidTab
namespace Go.Sl
open Go
section
variable {P : Program} {n : Nat} {R : HL} {cx : Cx} {k : List Kont} {ρ : Env} {L : List HL}
def burst : HL → List HL
 | [] => []
 | p :: r => [p] :: burst r
theorem burst_flat : ∀ c : HL, (burst c).flatten = c
 | [] => rfl
 | p :: r => by simp [burst, burst_flat r]
def burstAt? : Nat → List HL → Option (List HL)
 | _, [] => none
 | 0, c :: L => some (burst c ++ L)
 | i + 1, c :: L => match burstAt? i L with
  | some M => some (c :: M)
  | none => none
theorem burstAt?_flat : ∀ {i : Nat} {L M : List HL}, burstAt? i L = some M → L.flatten = M.flatten
 | _, [], _, h => by simp [burstAt?] at h
 | 0, c :: L, M, h => by simp only [burstAt?, Option.some.injEq] at h; subst h; simp [burst_flat]
 | i + 1, c :: L, M, h => by
  simp only [burstAt?] at h
  split at h
  ·
   rename_i M' hM
   cases h
   simp [burstAt?_flat hM]
  · cases h
def firsts : Nat → HL → Option (List HL)
 | 0, c => some [c]
 | _ + 1, [] => none
 | k + 1, p :: r => match firsts k r with
  | some A => some ([p] :: A)
  | none => none
theorem firsts_flat : ∀ {k : Nat} {c : HL} {A : List HL}, firsts k c = some A → A.flatten = c
 | 0, c, A, h => by simp only [firsts, Option.some.injEq] at h; subst h; simp
 | _ + 1, [], A, h => by simp [firsts] at h
 | k + 1, p :: r, A, h => by
  simp only [firsts] at h
  split at h
  ·
   rename_i A' hA
   cases h
   simp [firsts_flat hA]
  · cases h
def firstsAt? (k : Nat) : Nat → List HL → Option (List HL)
 | _, [] => none
 | 0, c :: L => match firsts k c with
  | some A => some (A ++ L)
  | none => none
 | i + 1, c :: L => match firstsAt? k i L with
  | some M => some (c :: M)
  | none => none
theorem firstsAt?_flat {k : Nat} : ∀ {i : Nat} {L M : List HL}, firstsAt? k i L = some M → L.flatten = M.flatten
 | _, [], _, h => by simp [firstsAt?] at h
 | 0, c :: L, M, h => by
  simp only [firstsAt?] at h
  split at h
  ·
   rename_i A hA
   cases h
   simp [firsts_flat hA]
  · cases h
 | i + 1, c :: L, M, h => by
  simp only [firstsAt?] at h
  split at h
  ·
   rename_i M' hM
   cases h
   simp [firstsAt?_flat hM]
  · cases h
theorem W.split (i : Nat) {M : List HL} (h : burstAt? i L = some M) (hk : W P n R cx k ρ M) : W P n R cx k ρ L := W.regroup (burstAt?_flat h) hk
theorem W.splitN (m i : Nat) {M : List HL} (h : firstsAt? m i L = some M) (hk : W P n R cx k ρ M) : W P n R cx k ρ L := W.regroup (firstsAt?_flat h) hk
def remove? : Nat → List HL → Option (HL × List HL)
 | _, [] => none
 | 0, c :: L => some (c, L)
 | i + 1, c :: L => match remove? i L with
  | some (d, M) => some (d, c :: M)
  | none => none
theorem remove?_perm : ∀ {i : Nat} {L M : List HL} {d : HL}, remove? i L = some (d, M) → L.flatten.Perm (d ++ M.flatten)
 | _, [], _, _, h => by simp [remove?] at h
 | 0, c :: L, M, d, h => by simp only [remove?, Option.some.injEq, Prod.mk.injEq] at h; obtain ⟨rfl, rfl⟩ := h; simp
 | i + 1, c :: L, M, d, h => by
  simp only [remove?] at h
  split at h
  ·
   rename_i d' M' hM
   cases h
   have ih := remove?_perm hM
   simp only [List.flatten_cons]
   refine (List.Perm.append_left c ih).trans ?_
   rw [← List.append_assoc, ← List.append_assoc]
   exact List.Perm.append_right _ List.perm_append_comm
  · cases h
def gather : List Nat → List HL → Option (HL × List HL)
 | [], L => some ([], L)
 | [i], L => remove? i L
 | i :: is, L => match remove? i L with
  | none => none
  | some (c, L1) => match gather is L1 with
   | none => none
   | some (d, L2) => some (c ++ d, L2)
theorem gather_perm : ∀ {is : List Nat} {L M : List HL} {d : HL}, gather is L = some (d, M) → L.flatten.Perm (d ++ M.flatten)
 | [], L, M, d, h => by simp only [gather, Option.some.injEq, Prod.mk.injEq] at h; obtain ⟨rfl, rfl⟩ := h; simp
 | [i], L, M, d, h => remove?_perm h
 | i :: i2 :: is, L, M, d, h => by
  simp only [gather] at h
  split at h
  · cases h
  ·
   rename_i c L1 hr
   split at h
   · cases h
   ·
    rename_i d' L2 hg
    cases h
    rw [List.append_assoc]
    exact (remove?_perm hr).trans (List.Perm.append_left c (gather_perm (is := i2 :: is) hg))
theorem W.groupV (is : List Nat) {d : HL} {M : List HL} (h : gather is L = some (d, M)) (hk : W P n R cx k ρ (d :: M)) : W P n R cx k ρ L :=
 ⟨fun a w hf hs => hk.go a w hf (hs.perm (X := []) (by simpa using gather_perm h))⟩
theorem W.group (is : List Nat) {d d' : HL} {M : List HL} (h : gather is L = some (d, M)) (hd : norm? d = some d') (hk : W P n R cx k ρ (d' :: M)) : W P n R cx k ρ L := by
 have := norm?_eq hd
 subst this
 exact ⟨fun a w hf hs => hk.go a w hf (hs.perm (X := []) (by simpa using gather_perm h))⟩
def front? : Nat → List HL → Option (List HL × List HL)
 | 0, L => some ([], L)
 | _ + 1, [] => none
 | m + 1, c :: L => match front? m L with
  | some (A, B) => some (c :: A, B)
  | none => none
theorem front?_flat : ∀ {m : Nat} {L A B : List HL}, front? m L = some (A, B) → L.flatten = A.flatten ++ B.flatten
 | 0, L, A, B, h => by simp only [front?, Option.some.injEq, Prod.mk.injEq] at h; obtain ⟨rfl, rfl⟩ := h; simp
 | _ + 1, [], _, _, h => by simp [front?] at h
 | m + 1, c :: L, A, B, h => by
  simp only [front?] at h
  split at h
  ·
   rename_i A' B' hf
   cases h
   simp [front?_flat hf]
  · cases h
theorem FinOk.first {rs : List ResultVar} {post : Value → List HL → Prop} {vs : List Value} {A B : List HL} (m : Nat) (h : ResOk P R ρ L rs vs) (hm : front? m L = some (A, B)) (hp : post (pack vs) A) : FinOk P R rs post ρ L :=
 ⟨⟨vs, A, h, ⟨B.flatten, by rw [front?_flat hm]⟩, hp⟩⟩
theorem RoIn.all {R : HL} {rest : List HL} {ro : HL} (h : ∀ p ∈ ro, p ∈ R) : RoIn R rest ro := fun p hp => .inr (h p hp)
theorem W.nw {all : Array Oper} {d : Nat} {op : Op} {ty : TypeId} {pos : String} {af : Array Edge} {l : List Oper} {o : Obj} {f : Nat → Value} (h : NewOf P n R cx op ty ρ L o f) (hd : d < n)
  (hk : ∀ b, W P n R cx (.ops all l :: k) ((d, f b) :: ρ) ([(b, o)] :: L)) : W P n R cx (.ops all (⟨some d, op, ty, pos, af, none⟩ :: l) :: k) ρ L := W.newOf h.go hd hk
theorem W.nilChunk (hk : W P n R cx k ρ ([] :: L)) : W P n R cx k ρ L := W.regroup (by simp) hk
theorem app {T : Tab} (hT : TabOk P T) {t e m bytes ty : Nat} {s x : Operand} {cs news : List Value} {a : Option Addr} {len cap nx cxx bx ox : Nat} {H : HL} {lx : List Value} {ex : TypeId} {frx : Nat × Nat}
  (ht : look? T.sls t = some e) (hi : look? T.infs e = some (m, bytes)) (hs : ev? ρ s = some (.slice a len cap)) (ho : Own m e cs a len cap H)
  (hH : ∀ p ∈ H, p ∈ L.flatten) (hx : ev? ρ x = some (.slice (some ⟨bx, ox, none⟩) nx cxx)) (hb : At R L bx (.cells lx.toArray ex frx)) (hn : seg? lx ox (nx * m) = some news)
  (h1 : allOne news = true) (hbig : (len + nx) * bytes ≤ 140737488355328) (hbig2 : len + nx ≤ 140737488355328) :
  Prim P n R cx (.call ⟨.builtin .append, #[s, x], #[t, t]⟩) ty ρ L [H] (fun v L' => ∃ a' cap' H', v = .slice a' (len + nx) cap' ∧ L' = [H'] ∧ Own m e (cs ++ news) a' (len + nx) cap' H') :=
 append_some (hT.infs _ (look?_mem hi)) (hT.sls _ (look?_mem ht)) hs ho hH hx hb hn h1 hbig hbig2
theorem Own.roSl {m e : Nat} {cs : List Value} {a : Option Addr} {len cap : Nat} {H : HL} (h : Own m e cs a len cap H) : RoSl m cs a len H := by
 rcases h.2 with ⟨rfl, rfl, rfl, rfl⟩ | ⟨b, l, rfl, rfl, h1, h2, h3⟩
 · exact ⟨h.1, .inl ⟨rfl, rfl⟩⟩
 · exact ⟨h.1, .inr ⟨b, 0, l, e, (0, 0), rfl, rfl, by rw [h2, Nat.zero_add]; exact Nat.mul_le_mul_right _ h1, by simpa using h3⟩⟩
theorem NewOf.makeN {e m bytes : Nat} {t ty : TypeId} {x y : Operand} {z : Value} {zs : List Value} {kl kc : IntKind} {len cap : Nat} {il ic : Int}
  (hi : InfOk P e m bytes) (hz : ZeroOf P e z) (hzc : cells? z = some zs) (hzl : zs.length = m) (ht : P.underlying t = some (.slice e))
  (hx : ev? ρ x = some (.int kl il)) (hy : ev? ρ y = some (.int kc ic)) (hl : il = (len : Int)) (hc : ic = (cap : Int)) (hlc : len ≤ cap) (hb : bytes * cap ≤ 281474976710656) (hb2 : cap ≤ 281474976710656) :
  NewOf P n R cx (.makeSlice t x y) ty ρ L (.cells (repL cap zs).toArray e (0, 0)) (fun b => .slice (some ⟨b, 0, none⟩) len cap) := by
 obtain ⟨i, z', hi1, hi2, rfl, rfl, hi5, hi6⟩ := hi
 have hzz : z' = z := by
  have := hz default
  simp [zeroValue, typeInfo, hi1, hi2] at this
  exact this
 subst hzz
 have hcz := cells?_eq hzc
 refine ⟨fun oo a w ho hty hf hs => ⟨w.drawn, ?_⟩⟩
 subst hl hc
 have hr := run_make (P := P) w t e i z' ht hi1 hi2 kl kc len cap (by omega) (by omega) (by have : ((i.bytes * cap : Nat) : Int) ≤ 281474976710656 := by omega
                                                                                            rwa [Int.natCast_mul] at this) (by omega)
 unfold execOp; rw [ho]
 show _ = Result.ok _ (w.alloc _)
 simp only [hf.ev hx, hf.ev hy, Sem.run_bind, hr, Result.andThen_ok, Sem.run_pure, Int.toNat_natCast]
 have : madeCells z'.cells (cap * i.size) = (repL cap zs).toArray := by
  apply Array.ext'
  have h1 := repL_eq zs i.size hzl hi6 cap
  rw [← h1]
  simp [madeCells, hcz, hzl]
 rw [this]
theorem NewOf.mks {T : Tab} (hT : TabOk P T) {t e ty m bytes : Nat} {x y : Operand} {z : Value} {zs : List Value} {kl kc : IntKind} {len cap : Nat} {il ic : Int}
  (ht : look? T.sls t = some e) (hi : look? T.infs e = some (m, bytes)) (hz : look? T.zeros e = some z) (hzc : cells? z = some zs) (hzl : zs.length = m)
  (hx : ev? ρ x = some (.int kl il)) (hy : ev? ρ y = some (.int kc ic)) (hl : il = (len : Int)) (hc : ic = (cap : Int)) (hlc : len ≤ cap) (hb : bytes * cap ≤ 281474976710656) (hb2 : cap ≤ 281474976710656) :
  NewOf P n R cx (.makeSlice t x y) ty ρ L (.cells (repL cap zs).toArray e (0, 0)) (fun b => .slice (some ⟨b, 0, none⟩) len cap) :=
 NewOf.makeN (hT.infs _ (look?_mem hi)) (hT.zeros _ (look?_mem hz)) hzc hzl (hT.sls _ (look?_mem ht)) hx hy hl hc hlc hb hb2
theorem repL_len (l : List Value) : ∀ j, (repL j l).length = j * l.length
 | 0 => by simp [repL]
 | j + 1 => by simp [repL, repL_len l j, Nat.add_mul]; omega
theorem map_eraseIdx {α β : Type} (f : α → β) : ∀ (l : List α) (j : Nat), (l.eraseIdx j).map f = (l.map f).eraseIdx j
 | [], _ => by simp
 | _ :: _, 0 => by simp
 | x :: l, j + 1 => by simp [map_eraseIdx f l j]
section
variable {α : Type}
def mget : List (Int × α) → Int → Option α
 | [], _ => none
 | (a, v) :: r, x => if a = x then some v else mget r x
def mput : List (Int × α) → Int → α → List (Int × α)
 | [], x, v => [(x, v)]
 | (a, u) :: r, x, v => if a = x then (x, v) :: r else (a, u) :: mput r x v
def mdel : List (Int × α) → Int → List (Int × α)
 | [], _ => []
 | (a, u) :: r, x => if a = x then r else (a, u) :: mdel r x
def MapIs (kk : IntKind) (f : α → Value) (es : List MapEntry) (m : List (Int × α)) : Prop := es.map (fun e => (e.key, e.val)) = m.map (fun p => (Value.int kk p.1, f p.2))
theorem find_spec {kk k' : IntKind} {f : α → Value} (x : Int) : ∀ (es : List MapEntry) (m : List (Int × α)) (i : Nat), MapIs kk f es m →
  (mget m x = none ∧ Instr.findNow (.int k') (.int kk x) es i = some none ∧ (∀ v, mput m x v = m ++ [(x, v)]) ∧ mdel m x = m) ∨
  ∃ j v e, mget m x = some v ∧ Instr.findNow (.int k') (.int kk x) es i = some (some (i + j, f v)) ∧ es[j]? = some e ∧ e.key = .int kk x ∧ j < m.length ∧ (∀ u, mput m x u = m.set j (x, u)) ∧ mdel m x = m.eraseIdx j
 | [], [], i, _ => .inl ⟨rfl, rfl, fun _ => rfl, rfl⟩
 | [], _ :: _, i, h => by simp [MapIs] at h
 | _ :: _, [], i, h => by simp [MapIs] at h
 | e :: es, (a, u) :: m, i, h => by
  simp only [MapIs, List.map_cons, List.cons.injEq, Prod.mk.injEq] at h
  obtain ⟨⟨h1, h2⟩, h3⟩ := h
  by_cases ha : a = x
  ·
   subst ha
   refine .inr ⟨0, u, e, by simp [mget], by simp [Instr.findNow, Instr.sameNow, h1, h2], rfl, h1, by simp, fun v => by simp [mput], by simp [mdel]⟩
  ·
   have hne : (x == a) = false := by simpa using fun h => ha h.symm
   rcases find_spec (kk := kk) (k' := k') (f := f) x es m (i + 1) h3 with ⟨g1, g2, g3, g4⟩ | ⟨j, v, e', g1, g2, g3, g4, g5, g6, g7⟩
   · exact .inl ⟨by simp [mget, ha, g1], by simp [Instr.findNow, Instr.sameNow, h1, hne, g2], fun v => by simp [mput, ha, g3], by simp [mdel, ha, g4]⟩
   ·
    refine .inr ⟨j + 1, v, e', by simp [mget, ha, g1], ?_, by simpa using g3, g4, by simpa using g5, fun v => by simp [mput, ha, g6], by simp [mdel, ha, g7]⟩
    simp only [Instr.findNow, Instr.sameNow, h1, if_true, hne, g2]
    rw [show i + 1 + j = i + (j + 1) from by omega]
variable {f : α → Value}
theorem OpVal.lookup2 {t kt et ty : TypeId} {x y : Operand} {b clock : Nat} {es : Array MapEntry} {m : List (Int × α)} {kk : IntKind} {key : Int} {z : Value}
  (ht : P.underlying t = some (.map kt et)) (hk : P.underlying kt = some (.int kk)) (hz : ZeroOf P et z) (hx : ev? ρ x = some (.map (some b))) (hy : ev? ρ y = some (.int kk key))
  (hb : At R L b (.map es clock)) (hm : MapIs kk f es.toList m) :
  OpVal P n R cx (.lookup t x y true) ty ρ L (.tuple #[match mget m key with | some v => f v | none => z, .bool (mget m key).isSome]) := by
 refine ⟨fun oo a w ho hty hf hs => ?_⟩
 have hg := MapKept.run_getObj_map (P := P) (hb.heap hs)
 have hck := fun e => MapKept.run_checkKey (P := P) (w := w) (k := .int kk key) hk (by simp [MapKept.IsKey]) e 9999
 unfold execOp; rw [ho]
 rcases find_spec (k' := kk) key es.toList m 0 hm with ⟨g1, g2, _, _⟩ | ⟨j, v, e, g1, g2, _, _, _, _, _⟩
 · simp [Instr.lookup, hf.ev hx, hf.ev hy, run_underlying ht, hg, hck, MapKept.run_findKey hk g2, hz w, g1, Result.andThen]
 · simp [Instr.lookup, hf.ev hx, hf.ev hy, run_underlying ht, hg, hck, MapKept.run_findKey hk g2, g1, Result.andThen]
def IsMp (kk : IntKind) (f : α → Value) (m : List (Int × α)) (b : Nat) (H : HL) : Prop := ∃ es clock, H = [(b, .map es clock)] ∧ MapIs kk f es.toList m
theorem St.setO (w : World) (i b : Nat) (o o' : Obj) (hg : w.heap[b]? = some o) : St w [b] [] [[(b, o')]] { w with heap := w.heap.setIfInBounds b o', drawn := i } := by
 refine ⟨?_, by simp [ids], ?_, ?_, by simp, fun _ h => (by cases h), ⟨rfl, rfl, rfl⟩⟩
 ·
  intro p hp
  simp at hp
  subst hp
  exact (MapKept.heap_set hg).1
 ·
  intro j _ hj
  exact (MapKept.heap_set hg).2 j (by simpa using hj)
 ·
  intro j hj
  simp [ids] at hj
  simp [hj]
structure Skips (P : Program) (n : Nat) (R : HL) (cx : Cx) (op : Op) (ty : TypeId) (ρ : Env) (L : List HL) (pre : List HL) (post : List HL → Prop) : Prop where
 go : ∀ (oo : Oper) a w, oo.op = op → oo.type = ty → Fits n ρ a → St cx.w0 cx.S0 R L w → ∃ L' w', (execOp a.eval oo).run P w = .ok .skip w' ∧ post L' ∧ St w (ids pre.flatten) [] L' w'
theorem W.skips {all : Array Oper} {op : Op} {ty : TypeId} {pos : String} {af : Array Edge} {l : List Oper} {pre rest : List HL} {post : List HL → Prop}
  (h : Skips P n R cx op ty ρ L pre post) (hsel : Sel L pre rest) (hk : ∀ L', post L' → W P n R cx (.ops all l :: k) ρ (L' ++ rest)) :
  W P n R cx (.ops all (⟨none, op, ty, pos, af, none⟩ :: l) :: k) ρ L := by
 refine ⟨fun a w hf hs => ?_⟩
 obtain ⟨L', w', hr, hp, hst⟩ := h.go ⟨none, op, ty, pos, af, none⟩ a w rfl rfl hf hs
 simp only [mean, wpList, Region.wanted, if_true]
 refine .inl ?_
 unfold Oper.wp
 rw [hr]
 exact (hk L' hp).go _ _ (by simpa [Act.put] using hf) (hs.call hsel hst)
theorem mapPut {t kt et ty : TypeId} {x y u : Operand} {b : Nat} {m : List (Int × α)} {kk : IntKind} {key : Int} {v : α} {H : HL}
  (ht : P.underlying t = some (.map kt et)) (hk : P.underlying kt = some (.int kk)) (hx : ev? ρ x = some (.map (some b))) (hy : ev? ρ y = some (.int kk key)) (hu : ev? ρ u = some (f v))
  (hH : ∀ p ∈ H, p ∈ L.flatten) (hm : IsMp kk f m b H) : Skips P n R cx (.mapUpdate t x y u) ty ρ L [H] (fun L' => ∃ H', L' = [H'] ∧ IsMp kk f (mput m key v) b H') := by
 obtain ⟨es, clock, rfl, hm⟩ := hm
 refine ⟨fun oo a w ho hty hf hs => ?_⟩
 have hb := hs.has (b, .map es clock) (hH _ (by simp))
 have hg := MapKept.run_getObj_map (P := P) hb
 have hik : MapKept.IsKey (.int kk) (.int kk key) := by simp [MapKept.IsKey]
 have hck := fun e => MapKept.run_checkKey (P := P) (w := w) (k := .int kk key) hk hik e 9999
 rcases find_spec (k' := kk) key es.toList m 0 hm with ⟨g1, g2, g3, _⟩ | ⟨j, v0, e, g1, g2, g3, g4, g5, g6, _⟩
 ·
  refine ⟨_, { w with heap := w.heap.setIfInBounds b (.map (es.push { key := .int kk key, val := f v, born := clock }) (clock + 1)) }, ?_, ⟨_, rfl, es.push { key := .int kk key, val := f v, born := clock }, clock + 1, rfl, ?_⟩, ?_⟩
  ·
   unfold execOp; rw [ho]
   simp [Instr.mapUpdate, hf.ev hx, hf.ev hy, hf.ev hu, run_underlying ht, hg, hck, MapKept.run_findKey hk g2, MapKept.run_setObj_map _ hb, Result.andThen]
  ·
   unfold MapIs at hm ⊢
   rw [g3]
   simp [hm]
  · simpa [ids] using St.setO w w.drawn b _ (.map (es.push { key := .int kk key, val := f v, born := clock }) (clock + 1)) hb
 ·
  have hes : es[0 + j]? = some e := by simpa using g3
  refine ⟨_, { w with heap := w.heap.setIfInBounds b (.map (es.modify (0 + j) fun e => { e with key := .int kk key, val := f v }) clock) }, ?_, ⟨_, rfl, es.modify (0 + j) fun e => { e with key := .int kk key, val := f v }, clock, rfl, ?_⟩, ?_⟩
  ·
   unfold execOp; rw [ho]
   simp [Instr.mapUpdate, hf.ev hx, hf.ev hy, hf.ev hu, run_underlying ht, hg, hck, MapKept.run_findKey hk g2, Result.andThen]
   have hes' : es[j]? = some e := by simpa using g3
   simp [hes', g4, MapKept.run_keyThatStays hik, MapKept.run_setObj_map _ hb]
  ·
   unfold MapIs at hm ⊢
   rw [g6, List.map_set, ← hm, Nat.zero_add]
   apply List.ext_getElem?
   intro q
   simp only [Array.toList_modify, List.getElem?_map, List.getElem?_modify, List.getElem?_set]
   have hjl : j < es.toList.length := (List.getElem?_eq_some_iff.1 g3).1
   by_cases hq : j = q
   ·
    subst hq
    simp only [List.length_map, hjl, if_true]
    rw [g3]
    rfl
   · simp [hq]
  · simpa [ids] using St.setO w w.drawn b _ (.map (es.modify (0 + j) fun e => { e with key := .int kk key, val := f v }) clock) hb
theorem mapDel {t kt et ty : TypeId} {x y : Operand} {b : Nat} {m : List (Int × α)} {kk : IntKind} {key : Int} {H : HL}
  (ht : P.underlying t = some (.map kt et)) (hk : P.underlying kt = some (.int kk)) (hx : ev? ρ x = some (.map (some b))) (hy : ev? ρ y = some (.int kk key))
  (hH : ∀ p ∈ H, p ∈ L.flatten) (hm : IsMp kk f m b H) : Prim P n R cx (.call ⟨.builtin .delete, #[x, y], #[t, kt]⟩) ty ρ L [H] (fun _ L' => ∃ H', L' = [H'] ∧ IsMp kk f (mdel m key) b H') := by
 obtain ⟨es, clock, rfl, hm⟩ := hm
 refine ⟨fun oo a w ho hty hf hs => ?_⟩
 have hb := hs.has (b, .map es clock) (hH _ (by simp))
 have hg := MapKept.run_getObj_map (P := P) hb
 have hik : MapKept.IsKey (.int kk) (.int kk key) := by simp [MapKept.IsKey]
 have hck := fun e => MapKept.run_checkKey (P := P) (w := w) (k := .int kk key) hk hik e 9999
 rcases find_spec (k' := kk) key es.toList m 0 hm with ⟨g1, g2, _, g3⟩ | ⟨j, v0, e, g1, g2, g3, g4, g5, _, g6⟩
 ·
  refine ⟨.tuple #[], _, { w with heap := w.heap.setIfInBounds b (.map es clock) }, ?_, ⟨_, rfl, es, clock, rfl, by rw [g3]; exact hm⟩, ?_⟩
  ·
   unfold execOp; rw [ho]
   simp [resolve, invoke, builtin, Builtin.delete_, hf.ev hx, hf.ev hy, run_underlying ht, hg, hck, MapKept.run_findKey hk g2, MapKept.run_setObj_map _ hb, Result.andThen]
  · simpa [ids] using St.setO w w.drawn b _ (.map es clock) hb
 ·
  refine ⟨.tuple #[], _, { w with heap := w.heap.setIfInBounds b (.map (es.eraseIdxIfInBounds (0 + j)) clock) }, ?_, ⟨_, rfl, es.eraseIdxIfInBounds (0 + j), clock, rfl, ?_⟩, ?_⟩
  ·
   unfold execOp; rw [ho]
   simp [resolve, invoke, builtin, Builtin.delete_, hf.ev hx, hf.ev hy, run_underlying ht, hg, hck, MapKept.run_findKey hk g2, MapKept.run_setObj_map _ hb, Result.andThen]
  ·
   unfold MapIs at hm ⊢
   rw [g6, map_eraseIdx, ← hm, Nat.zero_add, Array.toList_eraseIdxIfInBounds, map_eraseIdx]
  · simpa [ids] using St.setO w w.drawn b _ (.map (es.eraseIdxIfInBounds (0 + j)) clock) hb
end
theorem NewOf.map {t ty : TypeId} : NewOf P n R cx (.makeMap t none) ty ρ L (.map #[] 0) (fun b => .map (some b)) := by
 refine ⟨fun oo a w ho hty hf hs => ⟨w.drawn, ?_⟩⟩
 unfold execOp; rw [ho]
 show _ = Result.ok _ (w.alloc _)
 have : (Instr.makeMap t none).run P w = .ok (.map (some w.heap.size)) (w.alloc (.map #[] 0)) := rfl
 simp [this]
theorem OpVal.slAr {T : Tab} (hT : TabOk P T) {t e ty : TypeId} {x : Operand} {a : Option Addr} {len cap m : Nat} (ht : look? T.ars t = some (m, e)) (hx : ev? ρ x = some (.slice a len cap)) (hl : m ≤ len) :
  OpVal P n R cx (.sliceToArrayPointer t x) ty ρ L (.pointer a) := by
 refine ⟨fun oo ac w ho hty hf hs => ?_⟩
 have hu := hT.ars _ (look?_mem ht)
 unfold execOp; rw [ho]
 simp [Instr.arrayAt, underlying, hu, hf.ev hx, Nat.not_lt.2 hl]
end
end Go.Sl
namespace Go.Sl
set_option linter.unusedVariables false
open Go
section
variable {P : Program} {n : Nat} {R : HL} {cx : Cx} {k : List Kont} {ρ : Env} {L : List HL}
theorem ndT {p : Prop} [Decidable p] (h : p) : (!decide p) = false := by simp [h]
theorem ndF {p : Prop} [Decidable p] (h : ¬p) : (!decide p) = true := by simp [h]
section
variable {all : Array Oper} {l : List Oper} {d : Nat} {g : Nat × Bool} {od : Option Nat} {op : Op} {t t' ty : TypeId} {x y c : Operand} {pos : String} {af : Array Edge} {bo : BinOp} {ca cb : Code}
theorem W.isPick (h : W P n R cx (.ops all (⟨some d, .pick c x y, ty, pos, af, none⟩ :: l) :: k) ρ L) : W P n R cx (.ops all (⟨some d, .pick c x y, ty, pos, af, none⟩ :: l) :: k) ρ L := h
theorem W.isBin (h : W P n R cx (.ops all (⟨some d, .binOp bo t x y t', ty, pos, af, none⟩ :: l) :: k) ρ L) : W P n R cx (.ops all (⟨some d, .binOp bo t x y t', ty, pos, af, none⟩ :: l) :: k) ρ L := h
theorem W.isGuard (h : W P n R cx (.ops all (⟨od, op, ty, pos, af, some g⟩ :: l) :: k) ρ L) : W P n R cx (.ops all (⟨od, op, ty, pos, af, some g⟩ :: l) :: k) ρ L := h
theorem W.isCond (h : W P n R cx (.code (.cond c ca cb) :: k) ρ L) : W P n R cx (.code (.cond c ca cb) :: k) ρ L := h
variable {el : List Kd} {fl : List (Nat × Obj)} {Y : List HL} {K : Env → List HL → Prop} {ops : Array Oper}
theorem WD.isPick (h : WD P n R cx ops el fl (⟨some d, .pick c x y, ty, pos, af, none⟩ :: l) ρ Y K) : WD P n R cx ops el fl (⟨some d, .pick c x y, ty, pos, af, none⟩ :: l) ρ Y K := h
theorem WD.isBin (h : WD P n R cx ops el fl (⟨some d, .binOp bo t x y t', ty, pos, af, none⟩ :: l) ρ Y K) : WD P n R cx ops el fl (⟨some d, .binOp bo t x y t', ty, pos, af, none⟩ :: l) ρ Y K := h
theorem WD.isGuard (h : WD P n R cx ops el fl (⟨od, op, ty, pos, af, some g⟩ :: l) ρ Y K) : WD P n R cx ops el fl (⟨od, op, ty, pos, af, some g⟩ :: l) ρ Y K := h
end
theorem OpVal.arSl {T : Tab} (hT : TabOk P T) {t e ty : TypeId} {x : Operand} {b off len m : Nat} {ag : Bool}
  (hx : ev? ρ x = some (.pointer (some ⟨b, off, none⟩))) (ht : look? T.ars t = some (len, e)) (hz : look? T.tys e = some (ag, m)) :
  OpVal P n R cx (.slice t x none none none) ty ρ L (.slice (some ⟨b, off, none⟩) len len) := by
 refine ⟨fun oo a w ho hty hf hs => ?_⟩
 have hu := hT.ars _ (look?_mem ht)
 have hz' := (hT.tys _ (look?_mem hz)).2
 unfold execOp; rw [ho]
 have h3 : (if len = 0 then (⟨b, off, none⟩ : Addr) else (⟨b, off, none⟩ : Addr).add 0) = ⟨b, off, none⟩ := by split <;> simp [Addr.add]
 simp [Instr.sliceAt, Instr.slice, Instr.sliceBounds, Instr.sureAddr, underlying, hu, hf.ev hx, hz' w, h3]
theorem OpVal.pieceG {T : Tab} (hT : TabOk P T) {t e ty : TypeId} {x : Operand} {lo hi mx : Option Operand} {b off len cap m l h c : Nat} {ag : Bool}
  (hx : ev? ρ x = some (.slice (some ⟨b, off, none⟩) len cap)) (ht : look? T.sls t = some e) (hz : look? T.tys e = some (ag, m))
  (hl : match lo with | none => l = 0 | some o => ∃ kk, ev? ρ o = some (.int kk (l : Int)))
  (hh : match hi with | none => h = len ∧ mx = none | some o => ∃ kk, ev? ρ o = some (.int kk (h : Int)))
  (hm : match mx with | none => c = cap | some o => ∃ kk, ev? ρ o = some (.int kk (c : Int)))
  (h1 : l ≤ h) (h2 : h ≤ c) (h3 : c ≤ cap) :
  OpVal P n R cx (.slice t x lo hi mx) ty ρ L (.slice (some ⟨b, if c = l then off else off + l * m, none⟩) (h - l) (c - l)) := by
 refine ⟨fun oo a w ho hty hf hs => ?_⟩
 have hu := hT.sls _ (look?_mem ht)
 have hz' := (hT.tys _ (look?_mem hz)).2
 have bnd : ∀ (o : Operand) (v y : Nat) (cd : BoundsCode), (∃ kk, ev? ρ o = some (.int kk (v : Int))) → v ≤ y → (Instr.sliceBound (a.eval o) y cd).run P w = .ok v w := by
  rintro o v y cd ⟨kk, ho⟩ hv
  simp [Instr.sliceBound, hf.ev ho, asIntOf, hv]
 unfold execOp; rw [ho]
 have hne2 : (if c = l then some (⟨b, off, none⟩ : Addr) else some ((⟨b, off, none⟩ : Addr).add (l * m))) = some ⟨b, if c = l then off else off + l * m, none⟩ := by split <;> simp [Addr.add_none']
 cases mx with
 | none =>
  simp only at hm
  subst hm
  cases hi with
  | none =>
   simp only at hh
   obtain ⟨rfl, -⟩ := hh
   cases lo with
   | none =>
    simp only at hl
    subst hl
    simp [Instr.sliceAt, Instr.slice, Instr.sliceBounds, underlying, hu, hf.ev hx, hz' w, Addr.add_none']
   | some o =>
    simp only at hl
    simp [Instr.sliceAt, Instr.slice, Instr.sliceBounds, underlying, hu, hf.ev hx, hz' w, bnd o l _ _ hl h1, hne2]
  | some o2 =>
   simp only at hh
   cases lo with
   | none =>
    simp only at hl
    subst hl
    simp [Instr.sliceAt, Instr.slice, Instr.sliceBounds, underlying, hu, hf.ev hx, hz' w, bnd o2 h _ _ hh h2, Addr.add_none']
   | some o =>
    simp only at hl
    simp [Instr.sliceAt, Instr.slice, Instr.sliceBounds, underlying, hu, hf.ev hx, hz' w, bnd o2 h _ _ hh h2, bnd o l _ _ hl h1, hne2]
 | some o3 =>
  simp only at hm
  cases hi with
  | none => simp at hh
  | some o2 =>
   simp only at hh
   cases lo with
   | none =>
    simp only at hl
    subst hl
    simp [Instr.sliceAt, Instr.slice, Instr.sliceBounds, underlying, hu, hf.ev hx, hz' w, bnd o3 c _ _ hm h3, bnd o2 h _ _ hh h2, Addr.add_none']
   | some o =>
    simp only at hl
    simp [Instr.sliceAt, Instr.slice, Instr.sliceBounds, underlying, hu, hf.ev hx, hz' w, bnd o3 c _ _ hm h3, bnd o2 h _ _ hh h2, bnd o l _ _ hl h1, hne2]
theorem OpVal.ixI {T : Tab} (hT : TabOk P T) {t e ty : TypeId} {x y : Operand} {b off len cap m j : Nat} {kk : IntKind} {i : Int} {ag : Bool}
  (hx : ev? ρ x = some (.slice (some ⟨b, off, none⟩) len cap)) (hy : ev? ρ y = some (.int kk i)) (ht : look? T.sls t = some e) (hz : look? T.tys e = some (ag, m))
  (hi : i = (j : Int)) (hj : j < len) : OpVal P n R cx (.indexAddr t x y) ty ρ L (.pointer (some ⟨b, off + j * m, none⟩)) :=
 OpVal.indexSl hx hy (hT.sls _ (look?_mem ht)) (hT.tys _ (look?_mem hz)).2 hi hj
theorem run_load_ro {w : World} {w0 : World} {S0 : List Nat} (hs : St w0 S0 R L w) {m : Nat} {cs : List Value} {a : Option Addr} {sl cap : Nat} {ro : HL} (h : RoSl m cs a sl ro) (hro : ∀ p ∈ ro, At R L p.1 p.2) {q : Nat} (hq : q ≤ sl) :
  (Builtin.firstCells m q (.slice a sl cap)).run P w = .ok (cs.take (q * m)).toArray w := by
 rcases h.2 with ⟨h0, _⟩ | ⟨b, off, l, e, fr, rfl, rfl, hl, hc⟩
 ·
  subst h0
  have : q = 0 := by omega
  subst this
  cases a <;> simp [Builtin.firstCells, loadCells, loadCellsFrom]
 ·
  have hqm : q * m ≤ sl * m := Nat.mul_le_mul_right _ hq
  have hg := (hro (b, .cells l.toArray e fr) (by simp)).heap hs
  have := run_loadCells_seg (P := P) (m := q * m) (vs := cs.take (q * m)) hg (by rw [seg?_of l off (q * m) (by omega), ← hc, List.take_take, Nat.min_eq_left hqm])
  simpa [Builtin.firstCells] using this
theorem allOne_take {l : List Value} (h : allOne l = true) (q : Nat) : allOne (l.take q) = true := allOne_of fun v hv => allOne_mem h v (List.mem_of_mem_take hv)
theorem copyTo {T : Tab} (hT : TabOk P T) {t t2 e ty : TypeId} {x y : Operand} {b off dLen dCap sLen sCap m q : Nat} {ag : Bool} {cs l : List Value} {a : Option Addr} {ro : HL} {ex : TypeId}
  (ht : look? T.sls t = some e) (hz : look? T.tys e = some (ag, m)) (hx : ev? ρ x = some (.slice (some ⟨b, off, none⟩) dLen dCap)) (hy : ev? ρ y = some (.slice a sLen sCap))
  (hs : RoSl m cs a sLen ro) (hro : ∀ p ∈ ro, At R L p.1 p.2) (hb : (b, .cells l.toArray ex (0, 0)) ∈ L.flatten) (h1 : allOne cs = true) (hq : min sLen dLen = q) (hfit : off + q * m ≤ l.length) :
  Prim P n R cx (.call ⟨.builtin .copy, #[x, y], #[t, t2]⟩) ty ρ L [[(b, .cells l.toArray ex (0, 0))]]
   (fun v L' => v = .int .i64 (q : Int) ∧ L' = [[(b, .cells (l.take off ++ cs.take (q * m) ++ l.drop (off + q * m)).toArray ex (0, 0))]]) := by
 refine ⟨fun oo ac w ho hty hf hst => ?_⟩
 have hu := hT.sls _ (look?_mem ht)
 have hz' := (hT.tys _ (look?_mem hz)).2
 have hg : w.heap[b]? = some (.cells l.toArray ex (0, 0)) := hst.has _ hb
 have hload := run_load_ro (P := P) (cap := sCap) hst hs hro (q := q) (by omega)
 have hcl : (cs.take (q * m)).length = q * m := by
  rw [List.length_take, hs.1]
  exact Nat.min_eq_left (Nat.mul_le_mul_right _ (by omega))
 have hsp := splice?_of l off (cs.take (q * m)) (by rw [hcl]; exact hfit)
 rw [hcl] at hsp
 have hstore := run_storeCells_splice (P := P) hg hsp (allOne_take h1 _)
 refine ⟨_, _, _, ?_, ⟨rfl, rfl⟩, by simpa [ids] using St.row w w.drawn b _ l.toArray ex (0, 0) hg⟩
 unfold execOp; rw [ho]
 have hm' : sLen.min dLen = q := hq
 simp [resolve, invoke, builtin, hf.ev hx, hf.ev hy, Builtin.copy_, run_underlying hu, Builtin.lenOf, hz' w, hm', hload, hstore, goInt]
theorem repL_zero {m : Nat} (zc : List Value) (hm : zc.length = m) (h0 : 0 < m) (len : Nat) : (Builtin.zeroCells zc.toArray len).toList = repL len zc := by
 rw [← repL_eq zc m hm h0 len]
 simp [Builtin.zeroCells, hm, Array.toList_map, Array.toList_range]
theorem clearSl {T : Tab} (hT : TabOk P T) {t e ty : TypeId} {x : Operand} {b off len cap m : Nat} {l zs : List Value} {z : Value} {ex : TypeId}
  (ht : look? T.sls t = some e) (hzz : look? T.zeros e = some z) (hc : cells? z = some zs) (hm : zs.length = m) (h0 : 0 < m) (hx : ev? ρ x = some (.slice (some ⟨b, off, none⟩) len cap))
  (hb : (b, .cells l.toArray ex (0, 0)) ∈ L.flatten) (h1 : allOne (repL len zs) = true) (hl : 0 < len) (hfit : off + len * m ≤ l.length) :
  Prim P n R cx (.call ⟨.builtin .clear, #[x], #[t]⟩) ty ρ L [[(b, .cells l.toArray ex (0, 0))]]
   (fun v L' => L' = [[(b, .cells (l.take off ++ repL len zs ++ l.drop (off + len * m)).toArray ex (0, 0))]]) := by
 refine ⟨fun oo ac w ho hty hf hst => ?_⟩
 have hu := hT.sls _ (look?_mem ht)
 have hz' := hT.zeros _ (look?_mem hzz)
 have hg : w.heap[b]? = some (.cells l.toArray ex (0, 0)) := hst.has _ hb
 have hrl : (repL len zs).length = len * m := by rw [repL_len, hm]
 have hsp := splice?_of l off (repL len zs) (by rw [hrl]; exact hfit)
 rw [hrl] at hsp
 have hstore := run_storeCells_splice (P := P) hg hsp h1
 have hzc : (Builtin.zeroCells z.cells len).toList = repL len zs := by rw [cells?_eq hc]; exact repL_zero zs hm h0 len
 refine ⟨.tuple #[], _, _, ?_, rfl, by simpa [ids] using St.row w w.drawn b _ l.toArray ex (0, 0) hg⟩
 unfold execOp; rw [ho]
 obtain ⟨len, rfl⟩ : ∃ j, len = j + 1 := ⟨len - 1, by omega⟩
 simp [resolve, invoke, builtin, hf.ev hx, Builtin.clear_, run_underlying hu, hz' w, hzc, hstore]
section
variable {α : Type}
theorem mget_mput (m : List (Int × α)) (x y : Int) (v : α) : mget (mput m x v) y = if x = y then some v else mget m y := by
 induction m with
 | nil => simp [mput, mget]
 | cons p r ih =>
  obtain ⟨a, u⟩ := p
  simp only [mput]
  split
  · rename_i h; subst h; simp only [mget]; split <;> rfl
  ·
   rename_i h
   simp only [mget, ih]
   split
   · rename_i h2; subst h2; rw [if_neg (fun h3 => h h3.symm)]
   · rfl
theorem mget_none {m : List (Int × α)} {x : Int} (h : x ∉ m.map (·.1)) : mget m x = none := by
 induction m with
 | nil => rfl
 | cons p r ih =>
  obtain ⟨a, u⟩ := p
  simp only [List.map_cons, List.mem_cons, not_or] at h
  simp only [mget]
  rw [if_neg (fun h2 => h.1 h2.symm)]
  exact ih h.2
theorem mget_mdel {m : List (Int × α)} (hn : (m.map (·.1)).Nodup) (x y : Int) : mget (mdel m x) y = if x = y then none else mget m y := by
 induction m with
 | nil => simp [mdel, mget]
 | cons p r ih =>
  obtain ⟨a, u⟩ := p
  simp only [List.map_cons, List.nodup_cons] at hn
  simp only [mdel]
  split
  ·
   rename_i h; subst h
   split
   · rename_i h2; subst h2; exact mget_none hn.1
   · rename_i h2; simp only [mget]; rw [if_neg h2]
  ·
   rename_i h
   simp only [mget, ih hn.2]
   split
   · rename_i h2; subst h2; rw [if_neg (fun h3 => h h3.symm)]
   · rfl
theorem mput_keys (m : List (Int × α)) (x : Int) (v : α) : ∀ k ∈ (mput m x v).map (·.1), k = x ∨ k ∈ m.map (·.1) := by
 induction m with
 | nil => intro k hk; simp [mput] at hk; exact .inl hk
 | cons p r ih =>
  obtain ⟨a, u⟩ := p
  intro k hk
  simp only [mput] at hk
  split at hk
  ·
   simp only [List.map_cons, List.mem_cons] at hk ⊢
   rcases hk with h | h
   · exact .inl h
   · exact .inr (.inr h)
  ·
   simp only [List.map_cons, List.mem_cons] at hk ⊢
   rcases hk with h | h
   · exact .inr (.inl h)
   ·
    rcases ih k h with h | h
    · exact .inl h
    · exact .inr (.inr h)
theorem mput_nd {m : List (Int × α)} (hn : (m.map (·.1)).Nodup) (x : Int) (v : α) : ((mput m x v).map (·.1)).Nodup := by
 induction m with
 | nil => simp [mput]
 | cons p r ih =>
  obtain ⟨a, u⟩ := p
  simp only [List.map_cons, List.nodup_cons] at hn
  simp only [mput]
  split
  · rename_i h; subst h; simpa using hn
  ·
   rename_i h
   simp only [List.map_cons, List.nodup_cons]
   refine ⟨fun hk => ?_, ih hn.2⟩
   rcases mput_keys r x v a hk with h2 | h2
   · exact h h2
   · exact hn.1 h2
theorem mdel_sub (m : List (Int × α)) (x : Int) : ∀ k ∈ (mdel m x).map (·.1), k ∈ m.map (·.1) := by
 induction m with
 | nil => simp [mdel]
 | cons p r ih =>
  obtain ⟨a, u⟩ := p
  intro k hk
  simp only [mdel] at hk
  split at hk
  · simp only [List.map_cons, List.mem_cons]; exact .inr hk
  ·
   simp only [List.map_cons, List.mem_cons] at hk ⊢
   rcases hk with h | h
   · exact .inl h
   · exact .inr (ih k h)
theorem mdel_nd {m : List (Int × α)} (hn : (m.map (·.1)).Nodup) (x : Int) : ((mdel m x).map (·.1)).Nodup := by
 induction m with
 | nil => simp [mdel]
 | cons p r ih =>
  obtain ⟨a, u⟩ := p
  simp only [List.map_cons, List.nodup_cons] at hn
  simp only [mdel]
  split
  · exact hn.2
  ·
   simp only [List.map_cons, List.nodup_cons]
   exact ⟨fun hk => hn.1 (mdel_sub r x a hk), ih hn.2⟩
end
def ints (xs : List Int) : List Value := xs.flatMap fun x => [.int .i64 x]
theorem int_at {l : List Value} {off : Nat} {xs : List Int} (hl : off + xs.length * 1 ≤ l.length) (h : (l.drop off).take (xs.length * 1) = ints xs) {i : Nat} (hi : i < xs.length) :
  l[off + i * 1]? = some (.int .i64 xs[i]) := by
 have h1 := RoSl.elem (f := fun x => [Value.int .i64 x]) (m := 1) (fun _ => rfl) hl h hi
 obtain ⟨h2, h3⟩ := seg?_eq _ _ _ h1
 have h4 := congrArg (fun l => l[0]?) h3
 simp only [List.getElem?_cons_zero] at h4
 rw [List.getElem?_take, if_pos (by decide), List.getElem?_drop] at h4
 simpa using h4.symm
def i64s (a : Int) : Prop := -9223372036854775808 ≤ a ∧ a ≤ 9223372036854775807
def bstr (l : List Int) : ByteArray := ⟨(l.map fun n => UInt8.ofNat n.toNat).toArray⟩
def u8ok (l : List Int) : Prop := ∀ x ∈ l, 0 ≤ x ∧ x < 256
theorem bstr_toList (l : List Int) : (bstr l).toList = l.map fun n => UInt8.ofNat n.toNat := by unfold bstr; rw [ByteArray.toList_mk]
theorem bstr_eq {a b : List Int} (ha : u8ok a) (hb : u8ok b) : ((bstr a).toList == (bstr b).toList) = decide (a = b) := by
 rw [bstr_toList, bstr_toList]
 have : (a.map fun n => UInt8.ofNat n.toNat) = (b.map fun n => UInt8.ofNat n.toNat) ↔ a = b := by
  constructor
  ·
   intro h
   induction a generalizing b with
   | nil => cases b <;> simp_all
   | cons x a ih =>
    cases b with
    | nil => simp at h
    | cons y b =>
     simp only [List.map_cons, List.cons.injEq] at h
     have hx := ha x (by simp)
     have hy := hb y (by simp)
     have hxy : x = y := by
      have h1 := congrArg UInt8.toNat h.1
      simp only [UInt8.toNat_ofNat'] at h1
      omega
     rw [hxy, ih (fun z hz => ha z (by simp [hz])) (fun z hz => hb z (by simp [hz])) h.2]
  · rintro rfl; rfl
 by_cases h : a = b
 · subst h; simp
 ·
  rw [decide_eq_false h]
  exact beq_eq_false_iff_ne.2 fun h3 => h (this.1 h3)
theorem foldl_push (ns : List Int) : ∀ s : ByteArray, ns.foldl (fun r n => r.push (UInt8.ofNat n.toNat)) s = ⟨s.data ++ (ns.map fun n => UInt8.ofNat n.toNat).toArray⟩ := by
 induction ns with
 | nil => intro s; simp
 | cons a ns ih =>
  intro s
  rw [List.foldl_cons, ih]
  simp [ByteArray.push]
def u8s (bs : List Int) : List Value := bs.flatMap fun x => [.int .u8 x]
theorem u8s_map (bs : List Int) : u8s bs = bs.map (.int .u8) := by
 unfold u8s
 induction bs with
 | nil => rfl
 | cons b bs ih => simp [ih]
theorem u8s_len (bs : List Int) : (u8s bs).length = bs.length := by simp [u8s_map]
theorem u8s_one (bs : List Int) : allOne (u8s bs) = true := by
 rw [u8s_map]
 induction bs with
 | nil => rfl
 | cons b bs ih => exact ih
theorem u8s_take (bs : List Int) (q : Nat) : (u8s bs).take q = u8s (bs.take q) := by rw [u8s_map, u8s_map, List.map_take]
theorem u8s_drop (bs : List Int) (q : Nat) : (u8s bs).drop q = u8s (bs.drop q) := by rw [u8s_map, u8s_map, List.map_drop]
theorem u8s_append (a b : List Int) : u8s (a ++ b) = u8s a ++ u8s b := by simp [u8s]
theorem OpVal.bytesStr {T : Tab} (hT : TabOk P T) {s t e ty : TypeId} {x : Operand} {a : Option Addr} {len cap : Nat} {bs : List Int} {ro : HL}
  (hx : ev? ρ x = some (.slice a len cap)) (hs : look? T.sls s = some e) (he : look? T.ints e = some .u8) (ht : hasNat T.strs t = true)
  (h : RoSl 1 (u8s bs) a len ro) (hro : ∀ p ∈ ro, At R L p.1 p.2) : OpVal P n R cx (.convert s t x) ty ρ L (.string (bstr bs)) := by
 refine ⟨fun oo ac w ho hty hf hst => ?_⟩
 have h1 := hT.sls _ (look?_mem hs)
 have h2 := hT.ints _ (look?_mem he)
 have h3 := hT.strs _ (hasNat_mem ht)
 have hlen : bs.length = len := by have := h.1; rw [u8s_len] at this; omega
 have key : (Conv.bytesToString (.slice a len cap)).run P w = .ok (.string (bstr bs)) w := by
  rcases h.2 with ⟨h0, _⟩ | ⟨b, off, l, e', fr, rfl, rfl, hl, hc⟩
  ·
   subst h0
   have : bs = [] := List.eq_nil_of_length_eq_zero hlen
   subst this
   cases a with
   | none => rfl
   | some a =>
    have := run_bytesToString (P := P) w a 0 cap [] (by simp [loadCells, loadCellsFrom])
    rw [this]
    rfl
  ·
   have hg := (hro (b, .cells l.toArray e' fr) (by simp)).heap hst
   have hld := run_loadCells_seg (P := P) (m := len) (vs := bs.map (.int .u8)) hg (by rw [seg?_of l off len (by omega), ← u8s_map, ← hc, Nat.mul_one])
   rw [run_bytesToString (P := P) w _ len cap bs hld, foldl_push]
   simp [bstr]
 unfold execOp; rw [ho]
 simp only [hf.ev hx]
 rw [Sem.run_bind, run_convert_bytes_string w s t e a len cap h1 h2 h3, key]
 rfl
structure SlD (X : Type) where
 a : Option Addr
 cap : Nat
 xs : List X
 ro : HL
theorem seg?_get {l vs : List Value} {o m : Nat} (h : seg? l o m = some vs) {k : Nat} (hk : k < m) : l[o + k]? = vs[k]? := by
 obtain ⟨h1, h2⟩ := seg?_eq l o m h
 rw [h2, List.getElem?_take, if_pos hk, List.getElem?_drop]
theorem RoSl.at {α : Type} {f : α → List Value} {m : Nat} (hf : ∀ x, (f x).length = m) {xs : List α} {a : Option Addr} {ro : HL} (h : RoSl m (xs.flatMap f) a xs.length ro) {i : Nat} (hi : i < xs.length) :
  ∃ b off l e fr, a = some ⟨b, off, none⟩ ∧ ro = [(b, .cells (List.toArray l) e fr)] ∧ seg? l (off + i * m) m = some (f xs[i]) ∧ ∀ k < m, l[off + i * m + k]? = (f xs[i])[k]? := by
 rcases h.2 with ⟨h0, _⟩ | ⟨b, off, l, e, fr, h1, h2, h3, h4⟩
 · omega
 ·
  have := RoSl.elem hf h3 h4 hi
  exact ⟨b, off, l, e, fr, h1, h2, this, fun k hk => seg?_get this hk⟩
theorem app0 {e m bytes : Nat} (hi : InfOk P e m bytes) {t ty : TypeId} {s x : Operand} {cs : List Value} {a ax : Option Addr} {len cap cx0 : Nat} {H : HL}
  (ht : P.underlying t = some (.slice e)) (hs : ev? ρ s = some (.slice a len cap)) (ho : Own m e cs a len cap H)
  (hH : ∀ p ∈ H, p ∈ L.flatten) (hx : ev? ρ x = some (.slice ax 0 cx0)) :
  Prim P n R cx (.call ⟨.builtin .append, #[s, x], #[t, t]⟩) ty ρ L [H] (fun v L' => v = .slice a len cap ∧ L' = [H]) := by
 obtain ⟨i, z, hi1, hi2, rfl, rfl, hi5, hi6⟩ := hi
 refine ⟨fun oo ac w hoo hty hf hst => ?_⟩
 refine ⟨_, _, w, ?_, ⟨rfl, rfl⟩, ?_⟩
 ·
  unfold execOp
  rw [hoo]
  have hlc : len ≤ cap := by
   rcases ho.2 with ⟨_, h1, h2, _⟩ | ⟨_, _, _, _, h1, _⟩ <;> omega
  rcases ho.2 with ⟨rfl, rfl, rfl, rfl⟩ | ⟨b, l, rfl, rfl, _, hll, htake⟩
  · cases ax <;> simp [resolve, invoke, builtin, hf.ev hs, hf.ev hx, Builtin.append_, run_underlying ht, sizeOf, typeInfo, hi1, Builtin.lenOf, Builtin.firstCells, loadCells, loadCellsFrom]
  · cases ax <;> simp [resolve, invoke, builtin, hf.ev hs, hf.ev hx, Builtin.append_, run_underlying ht, sizeOf, typeInfo, hi1, Builtin.lenOf, Builtin.firstCells, hlc, storeCells, loadCells, loadCellsFrom]
 ·
  have hmem : ∀ p ∈ [H].flatten, p ∈ L.flatten := by simpa using hH
  refine ⟨fun p hp => hst.has p (hmem p hp), ?_, fun _ _ _ => rfl, fun b hb => .inl hb, Nat.le_refl _, fun _ h => (by cases h), ⟨rfl, rfl, rfl⟩⟩
  rcases ho.2 with ⟨_, _, _, rfl⟩ | ⟨b, l, _, rfl, _⟩ <;> simp [ids]
theorem Prim.post {op : Op} {ty : TypeId} {pre : List HL} {post post' : Value → List HL → Prop} (h : Prim P n R cx op ty ρ L pre post) (hp : ∀ v L', post v L' → post' v L') : Prim P n R cx op ty ρ L pre post' :=
 ⟨fun oo a w h1 h2 hf hs => by obtain ⟨v, L', w', e1, e2, e3⟩ := h.go oo a w h1 h2 hf hs; exact ⟨v, L', w', e1, hp v L' e2, e3⟩⟩
theorem appRo {T : Tab} (hT : TabOk P T) {t e m bytes ty : Nat} {s x : Operand} {cs news : List Value} {a ax : Option Addr} {len cap nx cxx : Nat} {H ro : HL}
  (ht : look? T.sls t = some e) (hi : look? T.infs e = some (m, bytes)) (hs : ev? ρ s = some (.slice a len cap)) (ho : Own m e cs a len cap H) (hH : ∀ p ∈ H, p ∈ L.flatten)
  (hx : ev? ρ x = some (.slice ax nx cxx)) (hr : RoSl m news ax nx ro) (hro : ∀ p ∈ ro, At R L p.1 p.2) (h1 : allOne news = true) (hbig : (len + nx) * bytes ≤ 140737488355328) (hbig2 : len + nx ≤ 140737488355328) :
  Prim P n R cx (.call ⟨.builtin .append, #[s, x], #[t, t]⟩) ty ρ L [H] (fun v L' => ∃ a' cap' H', v = .slice a' (len + nx) cap' ∧ L' = [H'] ∧ Own m e (cs ++ news) a' (len + nx) cap' H') := by
 have hi' := hT.infs _ (look?_mem hi)
 have ht' := hT.sls _ (look?_mem ht)
 rcases hr.2 with ⟨h0, _⟩ | ⟨b, off, l, e', fr, rfl, rfl, hl, hc⟩
 ·
  subst h0
  have hn : news = [] := List.eq_nil_of_length_eq_zero (by simpa using hr.1)
  subst hn
  exact (app0 hi' ht' hs ho hH hx).post fun v L' ⟨e1, e2⟩ => ⟨a, cap, H, e1, e2, by rw [List.append_nil, Nat.add_zero]; exact ho⟩
 · exact append_some hi' ht' hs ho hH hx (hro (b, .cells l.toArray e' fr) (by simp)) (by rw [seg?_of l off (nx * m) hl, hc]) h1 hbig hbig2
def order : List Nat → List HL → Option (List HL × List HL)
 | [], L => some ([], L)
 | i :: is, L => match remove? i L with
  | some (d, M) => match order is M with
   | some (r, X) => some (d :: r, X)
   | none => none
  | none => none
theorem order_perm : ∀ {is : List Nat} {L M X : List HL}, order is L = some (M, X) → L.flatten.Perm (M.flatten ++ X.flatten)
 | [], L, M, X, h => by simp only [order, Option.some.injEq, Prod.mk.injEq] at h; obtain ⟨rfl, rfl⟩ := h; simp
 | i :: is, L, M, X, h => by
  simp only [order] at h
  split at h
  ·
   rename_i d M1 h1
   split at h
   ·
    rename_i r X1 h2
    simp only [Option.some.injEq, Prod.mk.injEq] at h
    obtain ⟨rfl, rfl⟩ := h
    refine (remove?_perm h1).trans ?_
    simp only [List.flatten_cons, List.append_assoc]
    exact List.Perm.append_left d (order_perm h2)
   · cases h
  · cases h
theorem W.order (is : List Nat) {M X : List HL} (h : Sl.order is L = some (M, X)) (hk : W P n R cx k ρ M) : W P n R cx k ρ L :=
 ⟨fun a w hf hs => hk.go a w hf (hs.perm (order_perm h))⟩
theorem W.dropNil (hk : W P n R cx k ρ L) : W P n R cx k ρ ([] :: L) := W.regroup (by simp) hk
theorem W.split3 {A B C : HL} {M : List HL} (h : L = (A ++ (B ++ C)) :: M) (hk : W P n R cx k ρ (A :: B :: C :: M)) : W P n R cx k ρ L := by
 subst h
 exact W.regroup (by simp) hk
theorem Sel.front : ∀ (A B : List HL), Sel (A ++ B) A B
 | [], _ => .nil
 | _ :: A, B => .cons .here (Sel.front A B)
theorem Ctr.frame {f : FuncId} {args : List Value} {pre : List HL} {ro : HL} {post : Value → List HL → Prop} (h : Ctr P f args pre ro post) (X : List HL) :
  Ctr P f args (pre ++ X) ro (fun v L' => ∃ L1, L' = L1 ++ X ∧ post v L1) := by
 refine ⟨h.callable, fun w hhas hnd hro => ?_⟩
 have hst : St w (ids (pre ++ X).flatten) ro (pre ++ X) w := ⟨hhas, hnd, fun _ _ _ => rfl, fun b hb => .inl hb, Nat.le_refl _, hro, ⟨rfl, rfl, rfl⟩⟩
 refine (h.use hst (Sel.front pre X) RoIn.same).mono ?_
 rintro e w' ⟨v, L', he, hp, hs⟩
 exact ⟨v, L' ++ X, he, ⟨L', rfl, hp⟩, hs⟩
theorem Ctr.post {f : FuncId} {args : List Value} {pre : List HL} {ro : HL} {post post' : Value → List HL → Prop} (h : Ctr P f args pre ro post) (hp : ∀ v L', post v L' → post' v L') : Ctr P f args pre ro post' := by
 refine ⟨h.callable, fun w hhas hnd hro => (h.go w hhas hnd hro).mono ?_⟩
 rintro e w' ⟨v, L', he, hq, hs⟩
 exact ⟨v, L', he, hp v L' hq, hs⟩
structure CtrV (P : Program) (fv : Value) (args : List Value) (pre : List HL) (ro : HL) (post : Value → List HL → Prop) : Prop where
 go : ∃ f args', (∀ w, (do let d ← Deferred.ofValue fv args.toArray; invoke d.target d.args : Sem Next).run P w = .ok (.enter f args'.toArray) w) ∧ Ctr P f args' pre ro post
theorem Ctr.v {f : FuncId} {fst args cap all : List Value} {pre : List HL} {ro : HL} {post : Value → List HL → Prop} (h : Ctr P f all pre ro post) (ha : fst ++ args ++ cap = all) :
  CtrV P (.func (.func f) fst.toArray cap.toArray) args pre ro post := by
 refine ⟨f, all, fun w => ?_, h⟩
 subst ha
 simp [Deferred.ofValue, invoke]
 simpa using h.callable (fst ++ args ++ cap).toArray w
theorem Ctr.m {f : FuncId} {t : TypeId} {name : String} {args all : List Value} {pre : List HL} {ro : HL} {post : Value → List HL → Prop} (h : Ctr P f all pre ro post)
  (ha : ∀ w, (do let d ← Deferred.ofValue (.func (.methodOf t name) #[] #[]) args.toArray; invoke d.target d.args : Sem Next).run P w = .ok (.enter f all.toArray) w) :
  CtrV P (.func (.methodOf t name) #[] #[]) args pre ro post := ⟨f, all, ha, h⟩
theorem W.callV {all : Array Oper} {d : Nat} {c : Call} {ty : TypeId} {pos : String} {af : Array Edge} {l : List Oper} {fo : Operand} {xs : Array Operand} {tys : Array TypeId}
  {fv : Value} {vs : List Value} {pre rest : List HL} {ro : HL} {post : Value → List HL → Prop}
  (hc : c = ⟨.value fo, xs, tys⟩) (hfo : ev? ρ fo = some fv) (hxs : evs? ρ xs.toList = some vs)
  (hsp : CtrV P fv vs pre ro post) (hsel : Sel L pre rest) (hro : RoIn R rest ro) (hd : d < n)
  (hk : ∀ v L', post v L' → W P n R cx (.ops all l :: k) ((d, v) :: ρ) (L' ++ rest)) :
  W P n R cx (.ops all (⟨some d, .call c, ty, pos, af, none⟩ :: l) :: k) ρ L := by
 refine ⟨fun a w hf hs => ?_⟩
 have hxs' := hf.evs hxs
 have hx : xs.map a.eval = vs.toArray := by cases xs; simp at hxs'; simp [hxs']
 simp only [mean, wpList, Region.wanted, if_true]
 refine .inl ?_
 obtain ⟨f, args', hrun, hctr⟩ := hsp.go
 unfold Oper.wp execOp
 subst hc
 have hr : (do let d ← resolve a.eval ⟨.value fo, xs, tys⟩ ty; invoke d.target d.args : Sem Next).run P w = .ok (.enter f args'.toArray) w := by
  simp only [resolve, hf.ev hfo, hx]
  exact hrun w
 simp only [hr]
 simp only [Oper.upon]
 refine (hctr.use hs hsel hro).mono ?_
 rintro e w' ⟨v, L', rfl, hpost, hst⟩
 exact (hk v L' hpost).go _ _ (hf.put hd v) hst
end
end Go.Sl
namespace Go.Proofs.YtfpghdcjdnifcaaGreat
open Go Go.Sl
set_option linter.unusedVariables false
theorem lb {m n : Nat} (h : Nat.ble m n = true) : m ≤ n := Nat.le_of_ble_eq_true h
theorem dt {p : Prop} [Decidable p] (h : p) : decide p = true := decide_eq_true h
theorem df {p : Prop} [Decidable p] (h : ¬ p) : decide p = false := decide_eq_false h
theorem oh {R : HL} {L : List HL} {b : Nat} {o : Obj} : At R ([(b, o)] :: L) b o := at_own 0 rfl
theorem ot {R : HL} {c : HL} {L : List HL} {b : Nat} {o : Obj} (h : At R L b o) : At R (c :: L) b o := h.imp (fun h => List.mem_append.2 (.inr h)) id
theorem rh {R : HL} {L : List HL} {b : Nat} {o : Obj} : At ((b, o) :: R) L b o := at_ro 0 rfl
theorem rt {R : HL} {q : Nat × Obj} {L : List HL} {b : Nat} {o : Obj} (h : At R L b o) : At (q :: R) L b o := h.imp id (List.mem_cons_of_mem _)
theorem rhF {R : HL} {M L : List HL} {b : Nat} {o : Obj} : At (([(b, o)] :: M).flatten ++ R) L b o := .inr (by simp)
theorem raF {c R : HL} {M L : List HL} {b : Nat} {o : Obj} (h : At (M.flatten ++ R) L b o) : At ((c :: M).flatten ++ R) L b o := h.imp id (fun h => by simp only [List.flatten_cons, List.append_assoc]; exact List.mem_append_right _ h)
section
variable {n : Nat} {R : HL} {cx : Cx} {k : List Kont} {ρ ρ' : Env} {L L' : List HL} {s s' : List Kont} {all : Array Oper} {d : Nat} {od : Option Nat} {op : Op} {ty t t' : TypeId} {x y c : Operand} {pos : String} {af : Array Edge} {l : List Oper} {v : Value}
 {b off m j sl : Nat} {fr : Nat × Nat} {lv cl' vs : List Value} {e : TypeId} {ag want bb : Bool} {ca cb : Code} {pre rest : List HL} {ro : HL} {post : Value → List HL → Prop}
theorem aG (h : W Tryz.prog n R cx s' ρ' L') (h1 : Sl.drive tab n 3000 s ρ = some (s', ρ') := by exact rfl) (h2 : norm? L = some L' := by exact rfl) : W Tryz.prog n R cx s ρ L := W.step tab_ok h1 h2 h
theorem aV (o : OpVal Tryz.prog n R cx op ty ρ L v) (h : W Tryz.prog n R cx s' ρ' L') (hd : d < n := by exact lb rfl)
  (h1 : Sl.drive tab n 3000 (.ops all l :: k) ((d, v) :: ρ) = some (s', ρ') := by exact rfl) (h2 : norm? L = some L' := by exact rfl) : W Tryz.prog n R cx (.ops all (⟨some d, op, ty, pos, af, none⟩ :: l) :: k) ρ L :=
 W.val o hd (W.step tab_ok h1 h2 h)
theorem aL (h : W Tryz.prog n R cx s' ρ' L') (hx : ev? ρ x = some (.pointer (some ⟨b, off, none⟩)) := by exact rfl) (hb : At R L b (.cells lv.toArray e fr) := by repeat (first | exact oh | exact rh | exact rhF | apply ot | apply raF | apply rt))
  (hv : ldv? tab t lv off = some v := by exact rfl) (hd : d < n := by exact lb rfl)
  (h1 : Sl.drive tab n 3000 (.ops all l :: k) ((d, v) :: ρ) = some (s', ρ') := by exact rfl) (h2 : norm? L = some L' := by exact rfl) : W Tryz.prog n R cx (.ops all (⟨some d, .load t x, ty, pos, af, none⟩ :: l) :: k) ρ L :=
 W.val (OpVal.load tab_ok hx hb hv) hd (W.step tab_ok h1 h2 h)
theorem aS {L2 : List HL} (h : W Tryz.prog n R cx s' ρ' L') (hx : ev? ρ x = some (.pointer (some ⟨b, off, none⟩)) := by exact rfl)
  (hu : Upd b (.cells lv.toArray e (0, 0)) (.cells cl'.toArray e (0, 0)) L L2 := by repeat (first | exact Upd.here | apply Upd.there))
  (hy : ev? ρ y = some v := by exact rfl) (hc : cells? v = some vs := by exact rfl) (hz : look? tab.tys t = some (ag, m) := by exact rfl) (hl : vs.length = m := by exact rfl) (ho : allOne vs = true := by exact rfl)
  (hv : splice? lv off vs = some cl' := by exact rfl)
  (h1 : Sl.drive tab n 3000 (.ops all l :: k) ρ = some (s', ρ') := by exact rfl) (h2 : norm? L2 = some L' := by exact rfl) : W Tryz.prog n R cx (.ops all (⟨none, .store t x y, ty, pos, af, none⟩ :: l) :: k) ρ L :=
 W.store tab_ok hx hu hy hc hz hl ho hv (W.step tab_ok h1 h2 h)
theorem aN {z : Value} (h : ∀ b, W Tryz.prog n R cx (.ops all l :: k) ((d, .pointer (some ⟨b, 0, none⟩)) :: ρ) ([(b, .cells vs.toArray t (0, 0))] :: L)) (hz : look? tab.zeros t = some z := by exact rfl) (hc : cells? z = some vs := by exact rfl) (hd : d < n := by exact lb rfl) :
  W Tryz.prog n R cx (.ops all (⟨some d, .alloc t, ty, pos, af, none⟩ :: l) :: k) ρ L := W.new tab_ok hz hc hd h
theorem aB {z : Value} (h : ∀ b, W Tryz.prog n R cx (.ops all l :: k) ((d, .pointer (some ⟨b, 0, none⟩)) :: ρ) ([(b, .cells vs.toArray t (0, 0))] :: L)) (hz : ev? ρ x = some z := by exact rfl) (hc : cells? z = some vs := by exact rfl) (hd : d < n := by exact lb rfl) :
  W Tryz.prog n R cx (.ops all (⟨some d, .box t x, ty, pos, af, none⟩ :: l) :: k) ρ L := W.box hz hc hd h
theorem aW {o : Obj} {f : Nat → Value} (o1 : NewOf Tryz.prog n R cx op ty ρ L o f) (h : ∀ b, W Tryz.prog n R cx (.ops all l :: k) ((d, f b) :: ρ) ([(b, o)] :: L)) (hd : d < n := by exact lb rfl) :
  W Tryz.prog n R cx (.ops all (⟨some d, op, ty, pos, af, none⟩ :: l) :: k) ρ L := W.nw o1 hd h
theorem aGo (h : W Tryz.prog n R cx s' ρ' L') (hj : (all[j]?).bind (·.dst) = some sl := by exact rfl) (hb : ρ.get? sl = some (.bool bb) := by exact rfl)
  (hw : bb = want := by first | rfl | exact dt ‹_› | exact df ‹_› | exact ndT ‹_› | exact ndF ‹_› | (simp; done) | exact dt (by omega) | exact df (by omega) | exact ndT (by omega) | exact ndF (by omega) | omega) (h1 : Sl.drive tab n 3000 (.ops all (⟨od, op, ty, pos, af, none⟩ :: l) :: k) ρ = some (s', ρ') := by exact rfl) (h2 : norm? L = some L' := by exact rfl) :
  W Tryz.prog n R cx (.ops all (⟨od, op, ty, pos, af, some (j, want)⟩ :: l) :: k) ρ L := W.guardGo hj hb hw (W.step tab_ok h1 h2 h)
theorem aSk (h : W Tryz.prog n R cx s' ρ' L') (hj : (all[j]?).bind (·.dst) = some sl := by exact rfl) (hb : ρ.get? sl = some (.bool bb) := by exact rfl) (hw : bb = !want := by first | rfl | exact dt ‹_› | exact df ‹_› | exact ndT ‹_› | exact ndF ‹_› | (simp; done) | exact dt (by omega) | exact df (by omega) | exact ndT (by omega) | exact ndF (by omega) | omega) (hd : d < n := by exact lb rfl)
  (h1 : Sl.drive tab n 3000 (.ops all l :: k) ((d, undef) :: ρ) = some (s', ρ') := by exact rfl) (h2 : norm? L = some L' := by exact rfl) :
  W Tryz.prog n R cx (.ops all (⟨some d, op, ty, pos, af, some (j, want)⟩ :: l) :: k) ρ L := W.guardSkip hj hb hw hd (W.step tab_ok h1 h2 h)
theorem aUn (h : W Tryz.prog n R cx s' ρ' L') (hj : (all[j]?).bind (·.dst) = some sl := by exact rfl) (hb : ρ.get? sl = some undef := by exact rfl) (hd : d < n := by exact lb rfl)
  (h1 : Sl.drive tab n 3000 (.ops all l :: k) ((d, undef) :: ρ) = some (s', ρ') := by exact rfl) (h2 : norm? L = some L' := by exact rfl) :
  W Tryz.prog n R cx (.ops all (⟨some d, op, ty, pos, af, some (j, want)⟩ :: l) :: k) ρ L := W.guardUndef hj hb hd (W.step tab_ok h1 h2 h)
theorem aPT (h : W Tryz.prog n R cx s' ρ' L') (hc : ev? ρ c = some (.bool bb) := by exact rfl) (hx : ev? ρ x = some v := by exact rfl) (hb : bb = true := by first | rfl | exact dt ‹_› | exact df ‹_› | exact ndT ‹_› | exact ndF ‹_› | (simp; done) | exact dt (by omega) | exact df (by omega) | exact ndT (by omega) | exact ndF (by omega) | omega) (hd : d < n := by exact lb rfl)
  (h1 : Sl.drive tab n 3000 (.ops all l :: k) ((d, v) :: ρ) = some (s', ρ') := by exact rfl) (h2 : norm? L = some L' := by exact rfl) : W Tryz.prog n R cx (.ops all (⟨some d, .pick c x y, ty, pos, af, none⟩ :: l) :: k) ρ L :=
 W.val (OpVal.pickT hc hb hx) hd (W.step tab_ok h1 h2 h)
theorem aPF (h : W Tryz.prog n R cx s' ρ' L') (hc : ev? ρ c = some (.bool bb) := by exact rfl) (hy : ev? ρ y = some v := by exact rfl) (hb : bb = false := by first | rfl | exact dt ‹_› | exact df ‹_› | exact ndT ‹_› | exact ndF ‹_› | (simp; done) | exact dt (by omega) | exact df (by omega) | exact ndT (by omega) | exact ndF (by omega) | omega) (hd : d < n := by exact lb rfl)
  (h1 : Sl.drive tab n 3000 (.ops all l :: k) ((d, v) :: ρ) = some (s', ρ') := by exact rfl) (h2 : norm? L = some L' := by exact rfl) : W Tryz.prog n R cx (.ops all (⟨some d, .pick c x y, ty, pos, af, none⟩ :: l) :: k) ρ L :=
 W.val (OpVal.pickF hc hb hy) hd (W.step tab_ok h1 h2 h)
theorem aT (h : W Tryz.prog n R cx s' ρ' L') (hc : ev? ρ c = some (.bool bb) := by exact rfl)
  (hb : bb = true := by first | rfl | exact dt ‹_› | exact df ‹_› | exact ndT ‹_› | exact ndF ‹_› | (simp; done) | exact dt (by omega) | exact df (by omega) | exact ndT (by omega) | exact ndF (by omega) | omega) (h1 : Sl.drive tab n 3000 (.code ca :: k) ρ = some (s', ρ') := by exact rfl) (h2 : norm? L = some L' := by exact rfl) : W Tryz.prog n R cx (.code (.cond c ca cb) :: k) ρ L := W.iteT hc hb (W.step tab_ok h1 h2 h)
theorem aF (h : W Tryz.prog n R cx s' ρ' L') (hc : ev? ρ c = some (.bool bb) := by exact rfl)
  (hb : bb = false := by first | rfl | exact dt ‹_› | exact df ‹_› | exact ndT ‹_› | exact ndF ‹_› | (simp; done) | exact dt (by omega) | exact df (by omega) | exact ndT (by omega) | exact ndF (by omega) | omega) (h1 : Sl.drive tab n 3000 (.code cb :: k) ρ = some (s', ρ') := by exact rfl) (h2 : norm? L = some L' := by exact rfl) : W Tryz.prog n R cx (.code (.cond c ca cb) :: k) ρ L := W.iteF hc hb (W.step tab_ok h1 h2 h)
theorem aC {cc : Call} {fo : Operand} {xs : Array Operand} {tys : Array TypeId} {f : FuncId} {fst us cap args : List Value}
  (hc : cc = ⟨.value fo, xs, tys⟩ := by exact rfl) (hfo : ev? ρ fo = some (.func (.func f) fst.toArray cap.toArray) := by exact rfl) (hxs : evs? ρ xs.toList = some us := by exact rfl) (hargs : fst ++ us ++ cap = args := by exact rfl)
  (o : Ctr Tryz.prog f args pre ro post) (h : ∀ v L', post v L' → W Tryz.prog n R cx (.ops all l :: k) ((d, v) :: ρ) (L' ++ rest))
  (hsel : Sel L pre rest := by repeat (first | exact Sel.nil | (apply Sel.cons; (repeat (first | exact Pick.here | apply Pick.there)))))
  (hro : RoIn R rest ro := by repeat (first | exact RoIn.nil | exact RoIn.same | refine RoIn.cons (by first | exact at_own 0 rfl | exact at_own 1 rfl | exact at_own 2 rfl | exact at_own 3 rfl | exact at_own 4 rfl | exact at_own 5 rfl | exact at_own 6 rfl | exact at_own 7 rfl | exact at_own 8 rfl | exact at_own 9 rfl | exact at_own 10 rfl | exact at_own 11 rfl | exact at_ro 0 rfl | exact at_ro 1 rfl | exact at_ro 2 rfl | exact at_ro 3 rfl | exact at_ro 4 rfl | exact at_ro 5 rfl) ?_ | refine RoIn.append ?_ ?_ | exact RoIn.own 0 rfl | exact RoIn.own 1 rfl | exact RoIn.own 2 rfl | exact RoIn.own 3 rfl | exact RoIn.own 4 rfl | exact RoIn.own 5 rfl | exact RoIn.own 6 rfl | exact RoIn.own 7 rfl | exact RoIn.own 8 rfl | exact RoIn.own 9 rfl | exact RoIn.own 10 rfl | exact RoIn.own 11 rfl | (intro p hp; simp [hp]; done)))
  (hd : d < n := by exact lb rfl) : W Tryz.prog n R cx (.ops all (⟨some d, .call cc, ty, pos, af, none⟩ :: l) :: k) ρ L := W.call hc hfo hxs hargs o hsel hro hd h
theorem aCV {cc : Call} {fo : Operand} {xs : Array Operand} {tys : Array TypeId} {fv : Value} {us : List Value}
  (hc : cc = ⟨.value fo, xs, tys⟩ := by exact rfl) (hfo : ev? ρ fo = some fv := by exact rfl) (hxs : evs? ρ xs.toList = some us := by exact rfl)
  (o : CtrV Tryz.prog fv us pre ro post) (h : ∀ v L', post v L' → W Tryz.prog n R cx (.ops all l :: k) ((d, v) :: ρ) (L' ++ rest))
  (hsel : Sel L pre rest := by repeat (first | exact Sel.nil | (apply Sel.cons; (repeat (first | exact Pick.here | apply Pick.there)))))
  (hro : RoIn R rest ro := by repeat (first | exact RoIn.nil | exact RoIn.same | refine RoIn.cons (by first | exact at_own 0 rfl | exact at_own 1 rfl | exact at_own 2 rfl | exact at_own 3 rfl | exact at_own 4 rfl | exact at_own 5 rfl | exact at_own 6 rfl | exact at_own 7 rfl | exact at_own 8 rfl | exact at_own 9 rfl | exact at_own 10 rfl | exact at_own 11 rfl | exact at_ro 0 rfl | exact at_ro 1 rfl | exact at_ro 2 rfl | exact at_ro 3 rfl | exact at_ro 4 rfl | exact at_ro 5 rfl) ?_ | refine RoIn.append ?_ ?_ | exact RoIn.own 0 rfl | exact RoIn.own 1 rfl | exact RoIn.own 2 rfl | exact RoIn.own 3 rfl | exact RoIn.own 4 rfl | exact RoIn.own 5 rfl | exact RoIn.own 6 rfl | exact RoIn.own 7 rfl | exact RoIn.own 8 rfl | exact RoIn.own 9 rfl | exact RoIn.own 10 rfl | exact RoIn.own 11 rfl | (intro p hp; simp [hp]; done)))
  (hd : d < n := by exact lb rfl) : W Tryz.prog n R cx (.ops all (⟨some d, .call cc, ty, pos, af, none⟩ :: l) :: k) ρ L := W.callV hc hfo hxs o hsel hro hd h
theorem aPr (hp : Prim Tryz.prog n R cx op ty ρ L pre post) (hk : ∀ v L', post v L' → W Tryz.prog n R cx (.ops all l :: k) ((d, v) :: ρ) (L' ++ rest))
  (hsel : Sel L pre rest := by repeat (first | exact Sel.nil | (apply Sel.cons; (repeat (first | exact Pick.here | apply Pick.there))))) (hd : d < n := by exact lb rfl) :
  W Tryz.prog n R cx (.ops all (⟨some d, op, ty, pos, af, none⟩ :: l) :: k) ρ L := W.prim hp hsel hd hk
theorem aPu (hp : Prim Tryz.prog n R cx op ty ρ L pre post) (hk : ∀ v L', post v L' → W Tryz.prog n R cx (.ops all l :: k) ρ (L' ++ rest))
  (hsel : Sel L pre rest := by repeat (first | exact Sel.nil | (apply Sel.cons; (repeat (first | exact Pick.here | apply Pick.there))))) :
  W Tryz.prog n R cx (.ops all (⟨none, op, ty, pos, af, none⟩ :: l) :: k) ρ L := W.primU hp hsel hk
theorem aSkp {post : List HL → Prop} (hp : Skips Tryz.prog n R cx op ty ρ L pre post) (hk : ∀ L', post L' → W Tryz.prog n R cx (.ops all l :: k) ρ (L' ++ rest))
  (hsel : Sel L pre rest := by repeat (first | exact Sel.nil | (apply Sel.cons; (repeat (first | exact Pick.here | apply Pick.there))))) :
  W Tryz.prog n R cx (.ops all (⟨none, op, ty, pos, af, none⟩ :: l) :: k) ρ L := W.skips hp hsel hk
theorem aSl {bytes len : Nat} {ps : List (Nat × Operand)} {z : Value} {zs zz out : List Value} {q : List (Nat × List Value)}
  (h : ∀ b, W Tryz.prog n R cx (.ops all l :: k) ((d, .slice (some ⟨b, 0, none⟩) len len) :: ρ) ([(b, .cells out.toArray e (0, 0))] :: L))
  (ht : look? tab.sls t = some e := by exact rfl) (hi : look? tab.infs e = some (m, bytes) := by exact rfl) (hz : look? tab.zeros e = some z := by exact rfl) (hzc : cells? z = some zs := by exact rfl) (hzl : zs.length = m := by exact rfl) (hrep : norm? (repL len zs) = some zz := by exact rfl)
  (hq : parts? ρ (apl m 0 len) ps = some q := by exact rfl) (hf : Fills (apl m 0 len) ρ ps := by repeat (first | exact trivial | refine ⟨⟨_, _, _, rfl, rfl, rfl⟩, ?_⟩)) (ho : lay? zz q = some out := by exact rfl) (hlen : len * m ≤ 16777216 := by exact lb rfl) (hd : d < n := by exact lb rfl) :
  W Tryz.prog n R cx (.ops all (⟨some d, .buildSlice t len ps.toArray, ty, pos, af, none⟩ :: l) :: k) ρ L := W.slit tab_ok ht hi hz hzc hzl hrep hq hf ho hlen hd h
theorem aBu {ps : List (Nat × Operand)} {z : Value} {zs out : List Value} {pl : List (Nat × Nat)} {q : List (Nat × List Value)} (h : W Tryz.prog n R cx s' ρ' L')
  (hz : look? tab.zeros t = some z := by exact rfl) (hzc : cells? z = some zs := by exact rfl) (hp : look? tab.flds t = some pl := by exact rfl) (hq : parts? ρ pl ps = some q := by exact rfl) (hf : Fills pl ρ ps := by repeat (first | exact trivial | refine ⟨⟨_, _, _, rfl, rfl, rfl⟩, ?_⟩)) (ho : lay? zs q = some out := by exact rfl) (hd : d < n := by exact lb rfl)
  (h1 : Sl.drive tab n 3000 (.ops all l :: k) ((d, .agg out.toArray) :: ρ) = some (s', ρ') := by exact rfl) (h2 : norm? L = some L' := by exact rfl) : W Tryz.prog n R cx (.ops all (⟨some d, .build t ps.toArray, ty, pos, af, none⟩ :: l) :: k) ρ L :=
 W.val (OpVal.build tab_ok hz hzc hp hq hf ho) hd (W.step tab_ok h1 h2 h)
theorem aLp {cd : Code} (I : Nat → Env → List HL → Prop) {m0 : Nat} {ρ0 : Env} {L0 X : List HL} (hsub : Env.sub ρ0 ρ := by repeat (first | exact trivial | refine ⟨rfl, ?_⟩))
  (hsel : Sel L L0 X := by repeat (first | exact Sel.nil | (apply Sel.cons; (repeat (first | exact Pick.here | apply Pick.there))))) (o : I m0 ρ0 L0)
  (h : ∀ m ρ1 L1, I m ρ1 L1 → W Tryz.prog n R cx (.code cd :: .rnd (fun ρ2 L2 => ∃ m', m' < m ∧ I m' ρ2 L2) :: k) ρ1 L1) : W Tryz.prog n R cx (.code (.loop cd) :: k) ρ L := W.loop I m0 ρ0 L0 hsub hsel o h
theorem aR {J : Env → List HL → Prop} {ρ1 : Env} {L1 X : List HL} (hsub : Env.sub ρ1 ρ := by repeat (first | exact trivial | refine ⟨rfl, ?_⟩))
  (hsel : Sel L L1 X := by repeat (first | exact Sel.nil | (apply Sel.cons; (repeat (first | exact Pick.here | apply Pick.there))))) (o : J ρ1 L1) : W Tryz.prog n R cx (.rnd J :: k) ρ L := W.rnd ρ1 L1 hsub hsel o
theorem aAp {bytes len cap nx cxx bx ox : Nat} {cs news : List Value} {a : Option Addr} {H : HL} {lx : List Value} {ex : TypeId} {frx : Nat × Nat} (ho : Own m e cs a len cap H)
  (hk : ∀ v L', (∃ a' cap' H', v = .slice a' (len + nx) cap' ∧ L' = [H'] ∧ Own m e (cs ++ news) a' (len + nx) cap' H') → W Tryz.prog n R cx (.ops all l :: k) ((d, v) :: ρ) (L' ++ rest))
  (ht : look? tab.sls t = some e := by exact rfl) (hi : look? tab.infs e = some (m, bytes) := by exact rfl) (hs : ev? ρ x = some (.slice a len cap) := by exact rfl) (hH : ∀ p ∈ H, p ∈ L.flatten := by (intro p hp; simp [hp]))
  (hx : ev? ρ y = some (.slice (some ⟨bx, ox, none⟩) nx cxx) := by exact rfl) (hb : At R L bx (.cells lx.toArray ex frx) := by repeat (first | exact oh | exact rh | exact rhF | apply ot | apply raF | apply rt)) (hn : seg? lx ox (nx * m) = some news := by exact rfl)
  (h1 : allOne news = true := by exact rfl) (hbig : (len + nx) * bytes ≤ 140737488355328 := by omega) (hbig2 : len + nx ≤ 140737488355328 := by omega)
  (hsel : Sel L [H] rest := by repeat (first | exact Sel.nil | (apply Sel.cons; (repeat (first | exact Pick.here | apply Pick.there))))) (hd : d < n := by exact lb rfl) :
  W Tryz.prog n R cx (.ops all (⟨some d, .call ⟨.builtin .append, #[x, y], #[t, t]⟩, ty, pos, af, none⟩ :: l) :: k) ρ L :=
 W.prim (app tab_ok ht hi hs ho hH hx hb hn h1 hbig hbig2) hsel hd hk
theorem aRc {t : Nat} {rs : List ResultVar} (hr : ResOk Tryz.prog R ρ L rs vs) (h : ρ.get? t = some (.pointer (some ⟨b, off, none⟩)) := by exact rfl) (hb : At R L b (.cells lv.toArray e fr) := by repeat (first | exact oh | exact rh | exact rhF | apply ot | apply raF | apply rt))
  (hv : ldv? tab ty lv off = some v := by exact rfl) : ResOk Tryz.prog R ρ L (.cell t ty :: rs) (v :: vs) := ResOk.cell tab_ok h hb hv hr
end
section
variable {n : Nat} {R : HL} {cx : Cx} {ρ ρ' : Env} {Y Y' : List HL} {ops : Array Oper} {K : Env → List HL → Prop} {el el' : List Kd} {fl : List (Nat × Obj)} {d : Nat} {od : Option Nat} {op : Op} {ty t t' : TypeId} {x y c : Operand} {pos : String} {af : Array Edge} {l l' : List Oper} {v : Value}
 {b off m j sl : Nat} {fr : Nat × Nat} {lv cl' vs : List Value} {e : TypeId} {ag want bb eb : Bool} {pre rest : List HL} {ro : HL} {post : Value → List HL → Prop}
theorem dG (h : WD Tryz.prog n R cx ops el' fl l' ρ' Y' K) (h1 : ddrive tab n el l ρ = some (el', l', ρ') := by exact rfl) (h2 : norm? Y = some Y' := by exact rfl) : WD Tryz.prog n R cx ops el fl l ρ Y K := WD.step tab_ok h1 h2 h
theorem dV (o : OpVal Tryz.prog n R cx op ty ρ [] v) (h : WD Tryz.prog n R cx ops el' fl l' ρ' Y' K) (hd : d < n := by exact lb rfl) (h1 : ddrive tab n el l ((d, v) :: ρ) = some (el', l', ρ') := by exact rfl) (h2 : norm? Y = some Y' := by exact rfl) :
  WD Tryz.prog n R cx ops (.b false :: el) fl (⟨some d, op, ty, pos, af, none⟩ :: l) ρ Y K := WD.val o hd (WD.step tab_ok h1 h2 h)
theorem dVA (o : OpVal Tryz.prog n R cx op ty ρ Y v) (h : WD Tryz.prog n R cx ops el' fl l' ρ' Y' K) (hd : d < n := by exact lb rfl) (h1 : ddrive tab n el l ((d, v) :: ρ) = some (el', l', ρ') := by exact rfl) (h2 : norm? Y = some Y' := by exact rfl) :
  WD Tryz.prog n R cx ops (.b true :: el) fl (⟨some d, op, ty, pos, af, none⟩ :: l) ρ Y K := WD.valA o hd (WD.step tab_ok h1 h2 h)
theorem dL (h : WD Tryz.prog n R cx ops el' fl l' ρ' Y' K) (hx : ev? ρ x = some (.pointer (some ⟨b, off, none⟩)) := by exact rfl) (hb : At R [] b (.cells lv.toArray e fr) := by repeat (first | exact rh | exact rhF | apply raF | apply rt))
  (hv : ldv? tab t lv off = some v := by exact rfl) (hd : d < n := by exact lb rfl) (h1 : ddrive tab n el l ((d, v) :: ρ) = some (el', l', ρ') := by exact rfl) (h2 : norm? Y = some Y' := by exact rfl) :
  WD Tryz.prog n R cx ops (.b false :: el) fl (⟨some d, .load t x, ty, pos, af, none⟩ :: l) ρ Y K := WD.val (OpVal.load tab_ok hx hb hv) hd (WD.step tab_ok h1 h2 h)
theorem dLA (h : WD Tryz.prog n R cx ops el' fl l' ρ' Y' K) (hx : ev? ρ x = some (.pointer (some ⟨b, off, none⟩)) := by exact rfl) (hb : At R Y b (.cells lv.toArray e fr) := by repeat (first | exact oh | exact rh | exact rhF | apply ot | apply raF | apply rt))
  (hv : ldv? tab t lv off = some v := by exact rfl) (hd : d < n := by exact lb rfl) (h1 : ddrive tab n el l ((d, v) :: ρ) = some (el', l', ρ') := by exact rfl) (h2 : norm? Y = some Y' := by exact rfl) :
  WD Tryz.prog n R cx ops (.b true :: el) fl (⟨some d, .load t x, ty, pos, af, none⟩ :: l) ρ Y K := WD.valA (OpVal.load tab_ok hx hb hv) hd (WD.step tab_ok h1 h2 h)
theorem dS {L2 : List HL} (h : WD Tryz.prog n R cx ops el' fl l' ρ' Y' K) (hx : ev? ρ x = some (.pointer (some ⟨b, off, none⟩)) := by exact rfl)
  (hu : Upd b (.cells lv.toArray e (0, 0)) (.cells cl'.toArray e (0, 0)) Y L2 := by repeat (first | exact Upd.here | apply Upd.there))
  (hy : ev? ρ y = some v := by exact rfl) (hc : cells? v = some vs := by exact rfl) (hz : look? tab.tys t = some (ag, m) := by exact rfl) (hl : vs.length = m := by exact rfl) (ho : allOne vs = true := by exact rfl)
  (hv : splice? lv off vs = some cl' := by exact rfl) (h1 : ddrive tab n el l ρ = some (el', l', ρ') := by exact rfl) (h2 : norm? L2 = some Y' := by exact rfl) :
  WD Tryz.prog n R cx ops (.b true :: el) fl (⟨none, .store t x y, ty, pos, af, none⟩ :: l) ρ Y K := WD.store tab_ok hx hu hy hc hz hl ho hv (WD.step tab_ok h1 h2 h)
theorem dN {z : Value} (h : ∀ b, WD Tryz.prog n R cx ops el fl l ((d, .pointer (some ⟨b, 0, none⟩)) :: ρ) ([(b, .cells vs.toArray t (0, 0))] :: Y) K) (hz : look? tab.zeros t = some z := by exact rfl) (hc : cells? z = some vs := by exact rfl) (hd : d < n := by exact lb rfl) :
  WD Tryz.prog n R cx ops (.b true :: el) fl (⟨some d, .alloc t, ty, pos, af, none⟩ :: l) ρ Y K := WD.new_ (NewOf.new tab_ok hz hc) hd h
theorem dB {z : Value} (h : ∀ b, WD Tryz.prog n R cx ops el fl l ((d, .pointer (some ⟨b, 0, none⟩)) :: ρ) ([(b, .cells vs.toArray t (0, 0))] :: Y) K) (hz : ev? ρ x = some z := by exact rfl) (hc : cells? z = some vs := by exact rfl) (hd : d < n := by exact lb rfl) :
  WD Tryz.prog n R cx ops (.b true :: el) fl (⟨some d, .box t x, ty, pos, af, none⟩ :: l) ρ Y K := WD.new_ (NewOf.box hz hc) hd h
theorem dSl {bytes len : Nat} {ps : List (Nat × Operand)} {z : Value} {zs zz out : List Value} {q : List (Nat × List Value)}
  (h : ∀ b, WD Tryz.prog n R cx ops el fl l ((d, .slice (some ⟨b, 0, none⟩) len len) :: ρ) ([(b, .cells out.toArray e (0, 0))] :: Y) K)
  (ht : look? tab.sls t = some e := by exact rfl) (hi : look? tab.infs e = some (m, bytes) := by exact rfl) (hz : look? tab.zeros e = some z := by exact rfl) (hzc : cells? z = some zs := by exact rfl) (hzl : zs.length = m := by exact rfl) (hrep : norm? (repL len zs) = some zz := by exact rfl)
  (hq : parts? ρ (apl m 0 len) ps = some q := by exact rfl) (hf : Fills (apl m 0 len) ρ ps := by repeat (first | exact trivial | refine ⟨⟨_, _, _, rfl, rfl, rfl⟩, ?_⟩)) (ho : lay? zz q = some out := by exact rfl) (hlen : len * m ≤ 16777216 := by exact lb rfl) (hd : d < n := by exact lb rfl) :
  WD Tryz.prog n R cx ops (.b true :: el) fl (⟨some d, .buildSlice t len ps.toArray, ty, pos, af, none⟩ :: l) ρ Y K := WD.new_ (NewOf.slit tab_ok ht hi hz hzc hzl hrep hq hf ho hlen) hd h
theorem dGo (h : WD Tryz.prog n R cx ops el' fl l' ρ' Y' K) (hj : (ops[j]?).bind (·.dst) = some sl := by exact rfl) (hb : ρ.get? sl = some (.bool bb) := by exact rfl)
  (o : OpVal Tryz.prog n R cx op ty ρ [] v := by exact pop_val tab_ok rfl) (hw : bb = want := by first | rfl | exact dt ‹_› | exact df ‹_› | exact ndT ‹_› | exact ndF ‹_› | (simp; done) | exact dt (by omega) | exact df (by omega) | exact ndT (by omega) | exact ndF (by omega) | omega) (hd : d < n := by exact lb rfl) (h1 : ddrive tab n el l ((d, v) :: ρ) = some (el', l', ρ') := by exact rfl) (h2 : norm? Y = some Y' := by exact rfl) :
  WD Tryz.prog n R cx ops (.b false :: el) fl (⟨some d, op, ty, pos, af, some (j, want)⟩ :: l) ρ Y K := WD.guardGoQ hj hb hw o hd (WD.step tab_ok h1 h2 h)
theorem dSk (h : WD Tryz.prog n R cx ops el' fl l' ρ' Y' K) (hj : (ops[j]?).bind (·.dst) = some sl := by exact rfl) (hb : ρ.get? sl = some (.bool bb) := by exact rfl)
  (hw : bb = !want := by first | rfl | exact dt ‹_› | exact df ‹_› | exact ndT ‹_› | exact ndF ‹_› | (simp; done) | exact dt (by omega) | exact df (by omega) | exact ndT (by omega) | exact ndF (by omega) | omega) (hd : d < n := by exact lb rfl) (h1 : ddrive tab n el l ((d, undef) :: ρ) = some (el', l', ρ') := by exact rfl) (h2 : norm? Y = some Y' := by exact rfl) :
  WD Tryz.prog n R cx ops (.b eb :: el) fl (⟨some d, op, ty, pos, af, some (j, want)⟩ :: l) ρ Y K := WD.guardSkip hj hb hw hd (WD.step tab_ok h1 h2 h)
theorem dUn (h : WD Tryz.prog n R cx ops el' fl l' ρ' Y' K) (hj : (ops[j]?).bind (·.dst) = some sl := by exact rfl) (hb : ρ.get? sl = some undef := by exact rfl)
  (hd : d < n := by exact lb rfl) (h1 : ddrive tab n el l ((d, undef) :: ρ) = some (el', l', ρ') := by exact rfl) (h2 : norm? Y = some Y' := by exact rfl) :
  WD Tryz.prog n R cx ops (.b eb :: el) fl (⟨some d, op, ty, pos, af, some (j, want)⟩ :: l) ρ Y K := WD.guardUndef hj hb hd (WD.step tab_ok h1 h2 h)
theorem dPT (h : WD Tryz.prog n R cx ops el' fl l' ρ' Y' K) (hc : ev? ρ c = some (.bool bb) := by exact rfl) (hx : ev? ρ x = some v := by exact rfl)
  (hb : bb = true := by first | rfl | exact dt ‹_› | exact df ‹_› | exact ndT ‹_› | exact ndF ‹_› | (simp; done) | exact dt (by omega) | exact df (by omega) | exact ndT (by omega) | exact ndF (by omega) | omega) (hd : d < n := by exact lb rfl) (h1 : ddrive tab n el l ((d, v) :: ρ) = some (el', l', ρ') := by exact rfl) (h2 : norm? Y = some Y' := by exact rfl) :
  WD Tryz.prog n R cx ops (.b false :: el) fl (⟨some d, .pick c x y, ty, pos, af, none⟩ :: l) ρ Y K := WD.val (OpVal.pickT hc hb hx) hd (WD.step tab_ok h1 h2 h)
theorem dPF (h : WD Tryz.prog n R cx ops el' fl l' ρ' Y' K) (hc : ev? ρ c = some (.bool bb) := by exact rfl) (hy : ev? ρ y = some v := by exact rfl)
  (hb : bb = false := by first | rfl | exact dt ‹_› | exact df ‹_› | exact ndT ‹_› | exact ndF ‹_› | (simp; done) | exact dt (by omega) | exact df (by omega) | exact ndT (by omega) | exact ndF (by omega) | omega) (hd : d < n := by exact lb rfl) (h1 : ddrive tab n el l ((d, v) :: ρ) = some (el', l', ρ') := by exact rfl) (h2 : norm? Y = some Y' := by exact rfl) :
  WD Tryz.prog n R cx ops (.b false :: el) fl (⟨some d, .pick c x y, ty, pos, af, none⟩ :: l) ρ Y K := WD.val (OpVal.pickF hc hb hy) hd (WD.step tab_ok h1 h2 h)
theorem dC {cc : Call} {fo : Operand} {xs : Array Operand} {tys : Array TypeId} {f : FuncId} {fst us cap args : List Value}
  (hc : cc = ⟨.value fo, xs, tys⟩ := by exact rfl) (hfo : ev? ρ fo = some (.func (.func f) fst.toArray cap.toArray) := by exact rfl) (hxs : evs? ρ xs.toList = some us := by exact rfl) (hargs : fst ++ us ++ cap = args := by exact rfl)
  (o : Ctr Tryz.prog f args pre ro post) (h : ∀ v L', post v L' → WD Tryz.prog n R cx ops el fl l ((d, v) :: ρ) (L' ++ rest) K)
  (hsel : Sel Y pre rest := by repeat (first | exact Sel.nil | (apply Sel.cons; (repeat (first | exact Pick.here | apply Pick.there)))))
  (hro : RoIn R rest ro := by repeat (first | exact RoIn.nil | exact RoIn.same | refine RoIn.cons (by first | exact at_own 0 rfl | exact at_own 1 rfl | exact at_own 2 rfl | exact at_own 3 rfl | exact at_own 4 rfl | exact at_own 5 rfl | exact at_own 6 rfl | exact at_own 7 rfl | exact at_own 8 rfl | exact at_own 9 rfl | exact at_own 10 rfl | exact at_own 11 rfl | exact at_ro 0 rfl | exact at_ro 1 rfl | exact at_ro 2 rfl | exact at_ro 3 rfl | exact at_ro 4 rfl | exact at_ro 5 rfl) ?_ | refine RoIn.append ?_ ?_ | exact RoIn.own 0 rfl | exact RoIn.own 1 rfl | exact RoIn.own 2 rfl | exact RoIn.own 3 rfl | exact RoIn.own 4 rfl | exact RoIn.own 5 rfl | exact RoIn.own 6 rfl | exact RoIn.own 7 rfl | exact RoIn.own 8 rfl | exact RoIn.own 9 rfl | exact RoIn.own 10 rfl | exact RoIn.own 11 rfl | (intro p hp; simp [hp]; done)))
  (hd : d < n := by exact lb rfl) : WD Tryz.prog n R cx ops (.b true :: el) fl (⟨some d, .call cc, ty, pos, af, none⟩ :: l) ρ Y K := WD.call hc hfo hxs hargs o hsel hro hd h
theorem dQ {cc : Call} {fo : Operand} {xs : Array Operand} {tys : Array TypeId} {f : FuncId} {fst us cap args : List Value}
  (hc : cc = ⟨.value fo, xs, tys⟩ := by exact rfl) (hfo : ev? ρ fo = some (.func (.func f) fst.toArray cap.toArray) := by exact rfl) (hxs : evs? ρ xs.toList = some us := by exact rfl) (hargs : fst ++ us ++ cap = args := by exact rfl)
  (hi : Tryz.prog.inits.idxOf? f = none := by kernel_rfl) (o : Ctr Tryz.prog f args [] ro post) (h : WD Tryz.prog n R cx ops el' fl l' ρ' Y' K) (hv : ∀ u L', post u L' → u = v := by (rintro _ _ ⟨rfl, _⟩; rfl)) (hro : ∀ p ∈ ro, p ∈ R := by first | (intro p hp; cases hp; done) | (intro p hp; simpa using hp) | (intro p hp; simp at hp ⊢; simp [hp]; done)) (hd : d < n := by exact lb rfl) (h1 : ddrive tab n el l ((d, v) :: ρ) = some (el', l', ρ') := by exact rfl) (h2 : norm? Y = some Y' := by exact rfl) :
  WD Tryz.prog n R cx ops (.b false :: el) fl (⟨some d, .call cc, ty, pos, af, none⟩ :: l) ρ Y K := WD.callQ v hc hfo hxs hargs hi o hv hro hd (WD.step tab_ok h1 h2 h)
end
section
variable {mo : Bool} {n : Nat} {R : HL} {cx : Cx} {ρ ρ' : Env} {L : List HL} {all : Array Oper} {K : Env → Prop} {d : Nat} {od : Option Nat} {op : Op} {ty t t' : TypeId} {x y c : Operand} {pos : String} {af : Array Edge} {l l' : List Oper} {v : Value}
 {b off m j sl : Nat} {fr : Nat × Nat} {lv : List Value} {e : TypeId} {want bb : Bool} {ro : HL} {post : Value → List HL → Prop}
theorem zG (h : WZ mo Tryz.prog n R cx all l' ρ' L K) (h1 : zdrive tab n l ρ = some (l', ρ') := by exact rfl) : WZ mo Tryz.prog n R cx all l ρ L K := WZ.drive tab_ok h1 h
theorem zV (o : OpVal Tryz.prog n R cx op ty ρ L v) (h : WZ mo Tryz.prog n R cx all l' ρ' L K) (hd : d < n := by exact lb rfl) (h1 : zdrive tab n l ((d, v) :: ρ) = some (l', ρ') := by exact rfl) :
  WZ mo Tryz.prog n R cx all (⟨some d, op, ty, pos, af, none⟩ :: l) ρ L K := WZ.val o hd (WZ.drive tab_ok h1 h)
theorem zL (h : WZ mo Tryz.prog n R cx all l' ρ' L K) (hx : ev? ρ x = some (.pointer (some ⟨b, off, none⟩)) := by exact rfl) (hb : At R L b (.cells lv.toArray e fr) := by repeat (first | exact oh | exact rh | exact rhF | apply ot | apply raF | apply rt))
  (hv : ldv? tab t lv off = some v := by exact rfl) (hd : d < n := by exact lb rfl) (h1 : zdrive tab n l ((d, v) :: ρ) = some (l', ρ') := by exact rfl) :
  WZ mo Tryz.prog n R cx all (⟨some d, .load t x, ty, pos, af, none⟩ :: l) ρ L K := WZ.val (OpVal.load tab_ok hx hb hv) hd (WZ.drive tab_ok h1 h)
theorem zGo (h : WZ mo Tryz.prog n R cx all l' ρ' L K) (hj : (all[j]?).bind (·.dst) = some sl := by exact rfl) (hb : ρ.get? sl = some (.bool bb) := by exact rfl)
  (hw : bb = want := by first | rfl | exact dt ‹_› | exact df ‹_› | exact ndT ‹_› | exact ndF ‹_› | (simp; done) | exact dt (by omega) | exact df (by omega) | exact ndT (by omega) | exact ndF (by omega) | omega) (h1 : zdrive tab n (⟨od, op, ty, pos, af, none⟩ :: l) ρ = some (l', ρ') := by exact rfl) : WZ mo Tryz.prog n R cx all (⟨od, op, ty, pos, af, some (j, want)⟩ :: l) ρ L K := WZ.guardGo hj hb hw (WZ.drive tab_ok h1 h)
theorem zSk (h : WZ mo Tryz.prog n R cx all l' ρ' L K) (hj : (all[j]?).bind (·.dst) = some sl := by exact rfl) (hb : ρ.get? sl = some (.bool bb) := by exact rfl)
  (hw : bb = !want := by first | rfl | exact dt ‹_› | exact df ‹_› | exact ndT ‹_› | exact ndF ‹_› | (simp; done) | exact dt (by omega) | exact df (by omega) | exact ndT (by omega) | exact ndF (by omega) | omega) (hd : d < n := by exact lb rfl) (h1 : zdrive tab n l ((d, undef) :: ρ) = some (l', ρ') := by exact rfl) : WZ mo Tryz.prog n R cx all (⟨some d, op, ty, pos, af, some (j, want)⟩ :: l) ρ L K := WZ.guardSkip hj hb hw hd (WZ.drive tab_ok h1 h)
theorem zUn (h : WZ mo Tryz.prog n R cx all l' ρ' L K) (hj : (all[j]?).bind (·.dst) = some sl := by exact rfl) (hb : ρ.get? sl = some undef := by exact rfl)
  (hd : d < n := by exact lb rfl) (h1 : zdrive tab n l ((d, undef) :: ρ) = some (l', ρ') := by exact rfl) : WZ mo Tryz.prog n R cx all (⟨some d, op, ty, pos, af, some (j, want)⟩ :: l) ρ L K := WZ.guardUndef hj hb hd (WZ.drive tab_ok h1 h)
theorem zPT (h : WZ mo Tryz.prog n R cx all l' ρ' L K) (hc : ev? ρ c = some (.bool bb) := by exact rfl) (hx : ev? ρ x = some v := by exact rfl)
  (hb : bb = true := by first | rfl | exact dt ‹_› | exact df ‹_› | exact ndT ‹_› | exact ndF ‹_› | (simp; done) | exact dt (by omega) | exact df (by omega) | exact ndT (by omega) | exact ndF (by omega) | omega) (hd : d < n := by exact lb rfl) (h1 : zdrive tab n l ((d, v) :: ρ) = some (l', ρ') := by exact rfl) : WZ mo Tryz.prog n R cx all (⟨some d, .pick c x y, ty, pos, af, none⟩ :: l) ρ L K := WZ.val (OpVal.pickT hc hb hx) hd (WZ.drive tab_ok h1 h)
theorem zPF (h : WZ mo Tryz.prog n R cx all l' ρ' L K) (hc : ev? ρ c = some (.bool bb) := by exact rfl) (hy : ev? ρ y = some v := by exact rfl)
  (hb : bb = false := by first | rfl | exact dt ‹_› | exact df ‹_› | exact ndT ‹_› | exact ndF ‹_› | (simp; done) | exact dt (by omega) | exact df (by omega) | exact ndT (by omega) | exact ndF (by omega) | omega) (hd : d < n := by exact lb rfl) (h1 : zdrive tab n l ((d, v) :: ρ) = some (l', ρ') := by exact rfl) : WZ mo Tryz.prog n R cx all (⟨some d, .pick c x y, ty, pos, af, none⟩ :: l) ρ L K := WZ.val (OpVal.pickF hc hb hy) hd (WZ.drive tab_ok h1 h)
theorem zC {cc : Call} {fo : Operand} {xs : Array Operand} {tys : Array TypeId} {f : FuncId} {fst us cap args : List Value}
  (hc : cc = ⟨.value fo, xs, tys⟩ := by exact rfl) (hfo : ev? ρ fo = some (.func (.func f) fst.toArray cap.toArray) := by exact rfl) (hxs : evs? ρ xs.toList = some us := by exact rfl) (hargs : fst ++ us ++ cap = args := by exact rfl)
  (o : Ctr Tryz.prog f args [] ro post) (h : WZ true Tryz.prog n R cx all l' ρ' L K) (hv : ∀ u L', post u L' → u = v := by (rintro _ _ ⟨rfl, _⟩; rfl)) (hro : RoIn R L ro := by repeat (first | exact RoIn.nil | exact RoIn.same | refine RoIn.cons (by first | exact at_own 0 rfl | exact at_own 1 rfl | exact at_own 2 rfl | exact at_own 3 rfl | exact at_own 4 rfl | exact at_own 5 rfl | exact at_own 6 rfl | exact at_own 7 rfl | exact at_own 8 rfl | exact at_own 9 rfl | exact at_own 10 rfl | exact at_own 11 rfl | exact at_ro 0 rfl | exact at_ro 1 rfl | exact at_ro 2 rfl | exact at_ro 3 rfl | exact at_ro 4 rfl | exact at_ro 5 rfl) ?_ | refine RoIn.append ?_ ?_ | exact RoIn.own 0 rfl | exact RoIn.own 1 rfl | exact RoIn.own 2 rfl | exact RoIn.own 3 rfl | exact RoIn.own 4 rfl | exact RoIn.own 5 rfl | exact RoIn.own 6 rfl | exact RoIn.own 7 rfl | exact RoIn.own 8 rfl | exact RoIn.own 9 rfl | exact RoIn.own 10 rfl | exact RoIn.own 11 rfl | (intro p hp; simp [hp]; done))) (hd : d < n := by exact lb rfl) (h1 : zdrive tab n l ((d, v) :: ρ) = some (l', ρ') := by exact rfl) : WZ true Tryz.prog n R cx all (⟨some d, .call cc, ty, pos, af, none⟩ :: l) ρ L K := WZ.call v hc hfo hxs hargs o hro hd hv (WZ.drive tab_ok h1 h)
end
section
variable {n : Nat} {R : HL} {cx : Cx} {k : List Kont} {ρ : Env} {L : List HL} {all : Array Oper} {d : Nat} {ty t : TypeId} {x : Operand} {pos : String} {af : Array Edge} {l : List Oper} {vs : List Value} {s' : Nat → List Kont} {ρ' : Nat → Env} {L' : Nat → List HL}
theorem gN {z : Value} (h : ∀ b, W Tryz.prog n R cx (s' b) (ρ' b) (L' b)) (hz : look? tab.zeros t = some z := by exact rfl) (hc : cells? z = some vs := by exact rfl) (hd : d < n := by exact lb rfl)
  (h1 : ∀ b, Sl.drive tab n 3000 (.ops all l :: k) ((d, .pointer (some ⟨b, 0, none⟩)) :: ρ) = some (s' b, ρ' b) := by (intro b; exact rfl)) (h2 : ∀ b, norm? ([(b, Obj.cells vs.toArray t (0, 0))] :: L) = some (L' b) := by (intro b; exact rfl)) :
  W Tryz.prog n R cx (.ops all (⟨some d, .alloc t, ty, pos, af, none⟩ :: l) :: k) ρ L := W.new tab_ok hz hc hd fun b => W.step tab_ok (h1 b) (h2 b) (h b)
theorem gB {z : Value} (h : ∀ b, W Tryz.prog n R cx (s' b) (ρ' b) (L' b)) (hz : ev? ρ x = some z := by exact rfl) (hc : cells? z = some vs := by exact rfl) (hd : d < n := by exact lb rfl)
  (h1 : ∀ b, Sl.drive tab n 3000 (.ops all l :: k) ((d, .pointer (some ⟨b, 0, none⟩)) :: ρ) = some (s' b, ρ' b) := by (intro b; exact rfl)) (h2 : ∀ b, norm? ([(b, Obj.cells vs.toArray t (0, 0))] :: L) = some (L' b) := by (intro b; exact rfl)) :
  W Tryz.prog n R cx (.ops all (⟨some d, .box t x, ty, pos, af, none⟩ :: l) :: k) ρ L := W.box hz hc hd fun b => W.step tab_ok (h1 b) (h2 b) (h b)
end
structure Kept (p : Prop) : Prop where
 it : p
theorem gw {p q : Prop} (hh_ : p) (t : Kept p → q := by (intro hz_; (first | refine aL ?_ | refine aS ?_ | fail); (repeat (first | refine aL ?_ | refine aS ?_ | fail)); exact hz_.it)) : q := t ⟨hh_⟩
theorem gx {p q : Prop} (hh_ : p) (t : Kept p → q := by (intro hz_; (first | refine aL ?_ | refine aS ?_ | (refine W.isGuard ?_; first | refine aGo ?_ | refine aSk ?_ | refine aUn ?_ | fail) | (refine W.isPick ?_; first | refine aPT ?_ | refine aPF ?_ | fail) | (refine W.isBin ?_; first | refine aV (OpVal.neBool tab_ok rfl rfl rfl) ?_ | refine aV (OpVal.eqBool tab_ok rfl rfl rfl) ?_ | refine aV (OpVal.eqNil tab_ok rfl rfl rfl) ?_ | refine aV (OpVal.neNil tab_ok rfl rfl rfl) ?_ | refine aV (OpVal.add rfl rfl (i64_in _ (by omega))) ?_ | refine aV (OpVal.sub rfl rfl (i64_in _ (by omega))) ?_ | fail) | (refine W.isCond ?_; first | refine aT ?_ | refine aF ?_ | fail) | fail); (repeat (first | refine aL ?_ | refine aS ?_ | (refine W.isGuard ?_; first | refine aGo ?_ | refine aSk ?_ | refine aUn ?_ | fail) | (refine W.isPick ?_; first | refine aPT ?_ | refine aPF ?_ | fail) | (refine W.isBin ?_; first | refine aV (OpVal.neBool tab_ok rfl rfl rfl) ?_ | refine aV (OpVal.eqBool tab_ok rfl rfl rfl) ?_ | refine aV (OpVal.eqNil tab_ok rfl rfl rfl) ?_ | refine aV (OpVal.neNil tab_ok rfl rfl rfl) ?_ | refine aV (OpVal.add rfl rfl (i64_in _ (by omega))) ?_ | refine aV (OpVal.sub rfl rfl (i64_in _ (by omega))) ?_ | fail) | (refine W.isCond ?_; first | refine aT ?_ | refine aF ?_ | fail) | fail)); exact hz_.it)) : q := t ⟨hh_⟩
theorem gh {p q r : Prop} (g_ : r) (hh_ : p) (t : r → Kept p → q := by (intro gg_ hz_; (first | refine aL ?_ | refine aS ?_ | (refine W.isGuard ?_; first | refine aGo ?_ | refine aSk ?_ | refine aUn ?_ | refine aGo ?_ (hw := by first | (simp [gg_]; done) | omega) | refine aSk ?_ (hw := by first | (simp [gg_]; done) | omega) | fail) | (refine W.isPick ?_; first | refine aPT ?_ | refine aPF ?_ | refine aPT ?_ (hb := by first | (simp [gg_]; done) | omega) | refine aPF ?_ (hb := by first | (simp [gg_]; done) | omega) | fail) | (refine W.isBin ?_; first | refine aV (OpVal.neBool tab_ok rfl rfl rfl) ?_ | refine aV (OpVal.eqBool tab_ok rfl rfl rfl) ?_ | refine aV (OpVal.eqNil tab_ok rfl rfl rfl) ?_ | refine aV (OpVal.neNil tab_ok rfl rfl rfl) ?_ | refine aV (OpVal.add rfl rfl (i64_in _ (by omega))) ?_ | refine aV (OpVal.sub rfl rfl (i64_in _ (by omega))) ?_ | fail) | (refine W.isCond ?_; first | refine aT ?_ | refine aF ?_ | refine aT ?_ (hb := by first | (simp [gg_]; done) | omega) | refine aF ?_ (hb := by first | (simp [gg_]; done) | omega) | fail) | fail); (repeat (first | refine aL ?_ | refine aS ?_ | (refine W.isGuard ?_; first | refine aGo ?_ | refine aSk ?_ | refine aUn ?_ | refine aGo ?_ (hw := by first | (simp [gg_]; done) | omega) | refine aSk ?_ (hw := by first | (simp [gg_]; done) | omega) | fail) | (refine W.isPick ?_; first | refine aPT ?_ | refine aPF ?_ | refine aPT ?_ (hb := by first | (simp [gg_]; done) | omega) | refine aPF ?_ (hb := by first | (simp [gg_]; done) | omega) | fail) | (refine W.isBin ?_; first | refine aV (OpVal.neBool tab_ok rfl rfl rfl) ?_ | refine aV (OpVal.eqBool tab_ok rfl rfl rfl) ?_ | refine aV (OpVal.eqNil tab_ok rfl rfl rfl) ?_ | refine aV (OpVal.neNil tab_ok rfl rfl rfl) ?_ | refine aV (OpVal.add rfl rfl (i64_in _ (by omega))) ?_ | refine aV (OpVal.sub rfl rfl (i64_in _ (by omega))) ?_ | fail) | (refine W.isCond ?_; first | refine aT ?_ | refine aF ?_ | refine aT ?_ (hb := by first | (simp [gg_]; done) | omega) | refine aF ?_ (hb := by first | (simp [gg_]; done) | omega) | fail) | fail)); exact hz_.it)) : q := t g_ ⟨hh_⟩
theorem gdx {p q : Prop} (hh_ : p) (t : Kept p → q := by (intro hz_; (repeat (first | refine dL ?_ | refine dS ?_ | (first | refine dGo ?_ | refine dSk ?_ | refine dUn ?_ | fail) | (first | refine dPT ?_ | refine dPF ?_ | fail) | refine dV (OpVal.add rfl rfl (i64_in _ (by omega))) ?_ | refine dV (OpVal.sub rfl rfl (i64_in _ (by omega))) ?_ | refine dV (OpVal.neBool tab_ok rfl rfl rfl) ?_ | refine dV (OpVal.eqBool tab_ok rfl rfl rfl) ?_ | refine dV (OpVal.eqNil tab_ok rfl rfl rfl) ?_ | refine dV (OpVal.neNil tab_ok rfl rfl rfl) ?_ | fail)); exact hz_.it)) : q := t ⟨hh_⟩
theorem gzx {p q : Prop} (hh_ : p) (t : Kept p → q := by (intro hz_; (repeat (first | refine zL ?_ | (first | refine zGo ?_ | refine zSk ?_ | refine zUn ?_ | fail) | (first | refine zPT ?_ | refine zPF ?_ | fail) | refine zV (OpVal.add rfl rfl (i64_in _ (by omega))) ?_ | refine zV (OpVal.sub rfl rfl (i64_in _ (by omega))) ?_ | refine zV (OpVal.neBool tab_ok rfl rfl rfl) ?_ | refine zV (OpVal.eqBool tab_ok rfl rfl rfl) ?_ | refine zV (OpVal.eqNil tab_ok rfl rfl rfl) ?_ | refine zV (OpVal.neNil tab_ok rfl rfl rfl) ?_ | fail)); exact hz_.it)) : q := t ⟨hh_⟩
theorem gzh {p q r : Prop} (g_ : r) (hh_ : p) (t : r → Kept p → q := by (intro gg_ hz_; (repeat (first | refine zL ?_ | (first | refine zGo ?_ | refine zSk ?_ | refine zUn ?_ | refine zGo ?_ (hw := by first | (simp [gg_]; done) | omega) | refine zSk ?_ (hw := by first | (simp [gg_]; done) | omega) | fail) | (first | refine zPT ?_ | refine zPF ?_ | refine zPT ?_ (hb := by first | (simp [gg_]; done) | omega) | refine zPF ?_ (hb := by first | (simp [gg_]; done) | omega) | fail) | refine zV (OpVal.add rfl rfl (i64_in _ (by omega))) ?_ | refine zV (OpVal.sub rfl rfl (i64_in _ (by omega))) ?_ | refine zV (OpVal.neBool tab_ok rfl rfl rfl) ?_ | refine zV (OpVal.eqBool tab_ok rfl rfl rfl) ?_ | refine zV (OpVal.eqNil tab_ok rfl rfl rfl) ?_ | refine zV (OpVal.neNil tab_ok rfl rfl rfl) ?_ | fail)); exact hz_.it)) : q := t g_ ⟨hh_⟩
theorem gd {p r : Prop} (g_ : r) (t : r → p := by (intro gg_; first | rfl | (simp [gg_]; done) | omega)) : p := t g_
theorem gc2 {p q : Prop} (a : p) (b : q) : p ∧ q := ⟨a, b⟩
theorem gc3 {p q r : Prop} (a : p) (b : q) (c : r) : p ∧ q ∧ r := ⟨a, b, c⟩
theorem gc4 {p q r s : Prop} (a : p) (b : q) (c : r) (d : s) : p ∧ q ∧ r ∧ s := ⟨a, b, c, d⟩
theorem gc5 {p q r s t : Prop} (a : p) (b : q) (c : r) (d : s) (e : t) : p ∧ q ∧ r ∧ s ∧ t := ⟨a, b, c, d, e⟩
end Go.Proofs.YtfpghdcjdnifcaaGreat
namespace Go.Proofs.YtfpghdcjdnifcaaGreat
open Go Go.Sl Go.IntWalk
def around (x m : Int) : Int := (if x < 0 then -(x + 1) else x).tmod m
theorem Around_spec (x m : Int) (hx : -9223372036854775808 ≤ x ∧ x ≤ 9223372036854775807) (hm : 0 < m) :
  Ctr Tryz.prog 28 [.int .i64 x, .int .i64 m] [] [] (fun v L' => v = .int .i64 (around x m) ∧ L' = []) := by
 refine Ctr.enter (n := 13) [.tmp 4] [(0, _), (1, _)] Tryz.func28 rfl rfl rfl (lb rfl) Tryz.call28 ⟨rfl, rfl, trivial⟩ ?_
 intro cx fin fin0
 refine aG ?_
 by_cases h : x < 0
 ·
  refine aT ?_ (hb := by exact gd h)
  refine aV (OpVal.add rfl rfl (i64_in _ (by omega))) ?_
  refine aV (OpVal.neg rfl (i64_in _ (by omega))) ?_
  refine aV (OpVal.rem rfl rfl (by omega) rfl) ?_
  refine W.ret (fin _ _ (FinOk.mk' ([]) (.tmp rfl .nil) (by repeat (first | exact Sel.nil | (apply Sel.cons; (repeat (first | exact Pick.here | apply Pick.there))))) rfl ?_))
  exact ⟨by simp only [pack, around, if_pos h], rfl⟩
 ·
  refine aF ?_ (hb := by exact gd h)
  refine aV (OpVal.rem rfl rfl (by omega) rfl) ?_
  refine W.ret (fin _ _ (FinOk.mk' ([]) (.tmp rfl .nil) (by repeat (first | exact Sel.nil | (apply Sel.cons; (repeat (first | exact Pick.here | apply Pick.there))))) rfl ?_))
  exact ⟨by simp only [pack, around, if_neg h], rfl⟩
theorem around_range (x m : Int) (hm : 0 < m) : 0 ≤ around x m ∧ around x m < m := by
 unfold around
 have : 0 ≤ (if x < 0 then -(x + 1) else x) := by split <;> omega
 generalize (if x < 0 then -(x + 1) else x) = y at *
 rw [Int.tmod_eq_emod_of_nonneg this]
 exact ⟨Int.emod_nonneg _ (by omega), Int.emod_lt_of_pos _ hm⟩
end Go.Proofs.YtfpghdcjdnifcaaGreat
namespace Go.Sl
open Go Go.RowKit Go.ChangeShapes Go.WideShapes Go.Deep
theorem Ctr.below {P : Program} {f : FuncId} {args : List Value} {ro : HL} {post : Value → List HL → Prop} (h : Ctr P f args [] ro post) {W : World} (hro : ∀ p ∈ ro, W.heap[p.1]? = some p.2) {v : Value}
  (hv : ∀ u L', post u L' → u = v) : Calls P f args.toArray W fun e w' => e = .returned v ∧ Below W.heap.size W w' := by
 refine (h.go W (fun p hp => by simp at hp) (by simp [ids]) (fun p hp => ⟨hro p hp, by simp [ids]⟩)).mono ?_
 rintro e w' ⟨u, L', rfl, hpost, hst⟩
 exact ⟨by rw [hv u L' hpost], ⟨hst.env.1, hst.env.2.1, hst.env.2.2, hst.sz, fun k hk => hst.fr k hk (by simp [ids])⟩⟩
theorem trodAll_below {H : Type} {enc : TypeId × Value → H} {P : Program} (hl : laidOutB P = true) {W W' : World} (hb : Below W.heap.size W W') :
  ∀ (ts : List TypeId) (vs : List Value) (ds : List (DataW H)) (ps : List MemPlace), (∀ t ∈ ts, P.readableRec t = true ∧ t < P.types.size) → (∀ x ∈ ps, x.block < W.heap.size) →
   DataW.TrodAll enc P W 0 (fun _ => true) true ts vs ds ps → DataW.TrodAll enc P W' 0 (fun b => decide (b < W.heap.size)) true ts vs ds ps
 | [], [], [], _, _, _, h => h
 | t :: ts, v :: vs, d :: ds, ps, hr, hlt, h => by
  obtain ⟨p, q, h1, h2, rfl⟩ := h
  have hrt := hr t (by simp)
  exact ⟨p, q, Below.trod hl hrt.1 hrt.2 h1 hb (fun x hx => hlt x (by simp [hx])), trodAll_below hl hb ts vs ds q (fun t ht => hr t (by simp [ht])) (fun x hx => hlt x (by simp [hx])) h2, rfl⟩
 | [], _ :: _, _, _, _, _, h => by simp [DataW.TrodAll] at h
 | [], [], _ :: _, _, _, _, h => by simp [DataW.TrodAll] at h
 | _ :: _, [], _, _, _, _, h => by simp [DataW.TrodAll] at h
 | _ :: _, _ :: _, [], _, _, _, h => by simp [DataW.TrodAll] at h
theorem law_end {H : Type} {enc : TypeId × Value → H} {P : Program} {f : Func} {s : ChangeSpec} {W W' : World} {args : Array Value} {ds : List (DataW H)} {before : List MemPlace} {tb : TypeId}
  (hl : laidOutB P = true) (hr0 : (f.params.toList.all fun t => P.readableRec t && decide (t < P.types.size)) = true) (hres : f.resultTypes = #[tb]) (hb : P.underlying tb = some .bool)
  (hW : DataW.Whole enc P f.params.toList s.vars false W args.toList ds [] before) (hv : s.vars = [])
  (h1 : (s.fn H (ds ++ [])).results = [.lit (.bool true)]) (h2 : (s.fn H (ds ++ [])).args = ds) (h3 : (s.fn H (ds ++ [])).vars = [])
  (hbel : Below W.heap.size W W') : s.post enc P f false true false false W args (.bool true) W' := by
 have hr : ∀ t ∈ f.params.toList, P.readableRec t = true ∧ t < P.types.size := fun t ht => by
  have := List.all_eq_true.1 hr0 t ht
  simpa using this
 have hlt := hW.lt
 have hW2 := hW
 obtain ⟨p, q, hA, hV, rfl, _, _⟩ := hW2
 refine ⟨ds, [], _, [], p, [], hW, ?_, ?_, ?_, hbel.frame _, fun h => by cases h⟩
 ·
  rw [hres, h1]
  exact trodAll_mk1 (shut_bool hb true)
 ·
  rw [h2]
  exact trodAll_below hl hbel _ _ _ _ hr (fun x hx => hlt x (by simp [hx])) hA
 ·
  rw [hv, h3]
  rfl
theorem choose_list {X : Type} (p : Nat → X → Prop) : ∀ n : Nat, (∀ i, i < n → ∃ x, p i x) → ∃ xs : List X, xs.length = n ∧ ∀ i (h : i < xs.length), p i xs[i]
 | 0, _ => ⟨[], rfl, fun i h => by simp at h⟩
 | n + 1, h => by
  obtain ⟨xs, hl, hx⟩ := choose_list p n (fun i hi => h i (by omega))
  obtain ⟨x, hxp⟩ := h n (by omega)
  refine ⟨xs ++ [x], by simp [hl], fun i hi => ?_⟩
  by_cases hin : i < xs.length
  · rw [List.getElem_append_left hin]; exact hx i hin
  ·
   have : i = n := by simp at hi; omega
   subst this
   simp [hl]
   exact hxp
theorem block_of_cell {w : World} {a : Addr} {v : Value} (h : w.cell? a = some v) : ∃ c e fr, w.heap[a.block]? = some (.cells c e fr) ∧ a.spot = none ∧ c[a.off]? = some v := by
 unfold World.cell? at h
 split at h
 ·
  rename_i c e fr hb
  split at h
  · cases h
  ·
   rename_i hs
   exact ⟨c, e, fr, hb, by simpa using hs, h⟩
 · cases h
theorem flatMap_of_segs {X : Type} (f : X → List Value) (m : Nat) (hf : ∀ x, (f x).length = m) : ∀ (xs : List X) (l : List Value), l.length = xs.length * m →
  (∀ i (h : i < xs.length), (l.drop (i * m)).take m = f xs[i]) → l = xs.flatMap f
 | [], l, hl, _ => by simp at hl; simp [hl]
 | x :: xs, l, hl, h => by
  have h0 := h 0 (by simp)
  simp only [Nat.zero_mul, List.drop_zero, List.getElem_cons_zero] at h0
  have hl' : l.length = m + xs.length * m := by rw [hl, List.length_cons, Nat.add_mul]; omega
  have ih := flatMap_of_segs f m hf xs (l.drop m) (by rw [List.length_drop]; omega) (fun i hi => by
   have := h (i + 1) (by simp; omega)
   simp only [List.getElem_cons_succ] at this
   rw [← this, List.drop_drop]
   congr 2
   rw [Nat.add_mul]; omega)
  rw [List.flatMap_cons, ← h0, ← ih, List.take_append_drop]
section
variable {H : Type} {enc : TypeId × Value → H} {P : Program} {w : World} {spare : Nat → Bool} {held : Bool}
end
theorem RoSl.take {α : Type} {f : α → List Value} {m : Nat} (hf : ∀ x, (f x).length = m) {xs : List α} {a : Option Addr} {ro : HL} (h : RoSl m (xs.flatMap f) a xs.length ro) (j : Nat) (hj : j ≤ xs.length) :
  RoSl m ((xs.take j).flatMap f) a j ro := by
 have e : (xs.take j).flatMap f = (xs.flatMap f).take (j * m) := by
  have h1 : xs.flatMap f = (xs.take j).flatMap f ++ (xs.drop j).flatMap f := by rw [← List.flatMap_append, List.take_append_drop]
  have h2 : ((xs.take j).flatMap f).length = j * m := by rw [flatMap_len f m hf, List.length_take]; congr 1; omega
  rw [h1, ← h2, List.take_left]
 refine ⟨by rw [flatMap_len f m hf, List.length_take]; congr 1; omega, ?_⟩
 by_cases h0 : j = 0
 ·
  subst h0
  rcases h.2 with ⟨h1, h2⟩ | ⟨b, off, l, e', fr, h1, h2, h3, h4⟩
  · exact .inl ⟨rfl, h2⟩
  · exact .inr ⟨b, off, l, e', fr, h1, h2, by omega, by simp⟩
 ·
  rcases h.2 with ⟨h1, _⟩ | ⟨b, off, l, e', fr, h1, h2, h3, h4⟩
  · omega
  ·
   have hjm : j * m ≤ xs.length * m := Nat.mul_le_mul_right m hj
   refine .inr ⟨b, off, l, e', fr, h1, h2, by omega, ?_⟩
   rw [e, ← h4, List.take_take]
   congr 1
   omega
end Go.Sl
namespace Go.Sl
open Go
section
variable {P : Program} {n : Nat} {R : HL} {cx : Cx} {k : List Kont} {ρ : Env} {L : List HL}
def SelfEq (P : Program) (l : List Value) (f : Field) : Prop :=
 IsAgg P f.type false ∧ ∃ v, l[f.offset]? = some v ∧ ∀ (d : Nat) (w : World), (Op.equalIn (d + 1) f.type v v).run P w = .ok true w
theorem SelfEq.int {l : List Value} {f : Field} {kk k' : IntKind} {i : Int} (ha : IsAgg P f.type false) (ht : P.underlying f.type = some (.int k')) (h : l[f.offset]? = some (.int kk i)) : SelfEq P l f :=
 ⟨ha, _, h, fun d w => by have := run_equalIn_int (P := P) w d f.type kk k' i i ht; simpa using this⟩
theorem SelfEq.bool {l : List Value} {f : Field} {b : Bool} (ha : IsAgg P f.type false) (ht : P.underlying f.type = some .bool) (h : l[f.offset]? = some (.bool b)) : SelfEq P l f :=
 ⟨ha, _, h, fun d w => by have := run_equalIn_bool' (P := P) w d f.type b b ht; simpa using this⟩
theorem eqFields_self (d : Nat) (l : List Value) (w : World) : ∀ fs : List Field, (∀ f ∈ fs, SelfEq P l f) → (Op.eqFields (d + 1) l.toArray l.toArray fs).run P w = .ok true w
 | [], _ => rfl
 | f :: fs, h => by
  obtain ⟨ha, v, hv, he⟩ := h f (by simp)
  have ih := eqFields_self d l w fs (fun g hg => h g (by simp [hg]))
  have hp : (part f.type l.toArray f.offset).run P w = .ok v w := by simp [part, ha w, hv]
  simp only [Op.eqFields]
  split
  ·
   simp only [Sem.run_bind, hp, Result.andThen_ok, he d w]
   simpa using ih
  · exact ih
theorem equal_self {t : TypeId} {fs : Array Field} {l : List Value} (ht : P.underlying t = some (.struct fs)) (hh : P.stoodInHeld t = false) (h : ∀ f ∈ fs.toList, SelfEq P l f) (d : Nat) (w : World) :
  (Op.equalIn (d + 2) t (.agg l.toArray) (.agg l.toArray)).run P w = .ok true w := by
 have hf : P.fieldsOf t = fs := by simp [Program.fieldsOf, ht]
 rw [run_equalIn_struct (P := P) w (d + 1) t _ _ (by rw [hf]; exact ht) hh, hf]
 exact eqFields_self d l w _ h
theorem OpVal.neSelf {t t' ty : TypeId} {x y : Operand} {fs : Array Field} {l : List Value} (hx : ev? ρ x = some (.agg l.toArray)) (hy : ev? ρ y = some (.agg l.toArray)) (ht : P.underlying t = some (.struct fs))
  (hh : P.stoodInHeld t = false) (hg : P.eqGuardType P.depth t = false) (h : ∀ f ∈ fs.toList, SelfEq P l f) : OpVal P n R cx (.binOp .neq t x y t') ty ρ L (.bool false) :=
 .eqOf hx hy fun w => by
  rw [Sem.run_bind, run_eqGuard_agg w _ t x y _ _ hg]
  simp only [Result.andThen_ok]
  rw [run_neq_struct, equal_self ht hh h 9998 w]
  rfl
end
end Go.Sl
namespace Go.Proofs.YtfpghdcjdnifcaaGreat
open Go Go.Sl Go.IntWalk
set_option maxHeartbeats 4000000
set_option maxRecDepth 20000
abbrev Io := Int × Int × Int
def io3 (x : Io) : List Value := [.int .i64 x.1, .int .i64 x.2.1, .int .i64 x.2.2]
def ios (l : List Io) : List Value := l.flatMap io3
theorem ios_append (a b : List Io) : ios (a ++ b) = ios a ++ ios b := by simp [ios]
theorem ios_one (l : List Io) : allOne (ios l) = true := by
 refine allOne_of fun v hv => ?_
 obtain ⟨x, _, hx⟩ := List.mem_flatMap.1 hv
 simp only [io3, List.mem_cons, List.not_mem_nil, or_false] at hx
 rcases hx with rfl | rfl | rfl <;> rfl
def both (k p : Int) : List Io := [(k, p, 0), (k, p, 1)]
def pages (k : Int) (ps : List Int) : List Io := ps.flatMap (both k)
def planFetch (page : Int) (dirty : Bool) (old : Int) : List Io := (if dirty = true then pages 2 [old] else []) ++ pages 1 [page]
def planFlush (ps : List Int) : List Io := pages 2 ps ++ [(3, 0, 0)]
theorem pages_len (k : Int) (ps : List Int) : (pages k ps).length = 2 * ps.length := by
 induction ps with
 | nil => rfl
 | cons p ps ih => simp only [pages, List.flatMap_cons, List.length_append, List.length_cons] at *; rw [ih]; simp [both]; omega
theorem pages_next (k : Int) (ps : List Int) (i : Nat) (hi : i < ps.length) : pages k (ps.take (i + 1)) = pages k (ps.take i) ++ both k ps[i] := by
 rw [List.take_add_one, List.getElem?_eq_getElem hi]
 simp only [pages, List.flatMap_append, Option.toList_some, List.flatMap_cons, List.flatMap_nil, List.append_nil]
theorem both_spec (k p : Int) : Ctr Tryz.prog 365 [.int .i64 k, .int .i64 p] [] [] (fun v L' => ∃ a cap H, v = .slice a 2 cap ∧ L' = [H] ∧ Own 3 273 (ios (both k p)) a 2 cap H) := by
 refine Ctr.enter (n := 19) [.tmp 4] [(0, _), (1, _)] Tryz.func365 rfl rfl rfl (lb rfl) Tryz.call365 ⟨rfl, rfl, trivial⟩ ?_
 intro cx fin fin0
 refine aG ?_
 refine W.nilChunk ?_
 refine aLp (fun m ρ1 L1 => ∃ (j : Nat) (a : Option Addr) (cap : Nat) (H : HL), j ≤ 2 ∧ Own 3 273 (ios ((both k p).take j)) a j cap H ∧ m = 2 - j ∧ ρ1 = [(7, .int .i64 (j : Int)), (5, .slice a j cap), (0, .int .i64 k), (1, .int .i64 p)] ∧ L1 = [H]) (o := ⟨0, none, 0, [], by omega, Own.nil 3 _, rfl, rfl, rfl⟩) (h := ?_)
 rintro m ρ1 L1 ⟨j, a, cap, H, hj, hown, rfl, rfl, rfl⟩
 refine aG ?_
 by_cases hlt : j < 2
 ·
  refine aT ?_ (hb := by simp; omega)
  refine aBu (ps := [_, _, _]) ?_
  refine aSl (ps := [_]) ?_
  intro bt
  refine aG ?_
  refine aAp (hown) ?_
  rintro _ _ ⟨_, _, _, rfl, rfl, ho⟩
  refine aG ?_
  refine aV (OpVal.add rfl rfl (i64_in _ (by omega))) ?_
  have e : ios ((both k p).take j) ++ [.int .i64 k, .int .i64 p, .int .i64 (j : Int)] = ios ((both k p).take (j + 1)) := by
   obtain rfl | rfl : j = 0 ∨ j = 1 := by omega
   · rfl
   · rfl
  have ho' : Own 3 273 (ios ((both k p).take j) ++ [.int .i64 k, .int .i64 p, .int .i64 (j : Int)]) _ _ _ _ := ho
  rw [e] at ho'
  refine aR (o := ⟨2 - (j + 1), by omega, j + 1, _, _, _, by omega, ho', rfl, rfl, rfl⟩)
 ·
  obtain rfl : j = 2 := by omega
  refine aF ?_ (hb := by rfl)
  refine W.ret (fin _ _ (FinOk.first 1 (.tmp rfl .nil) rfl ?_))
  exact ⟨_, _, _, rfl, rfl, hown⟩
theorem Loads_spec (p : Int) : Ctr Tryz.prog 353 [.int .i64 p] [] [] (fun v L' => ∃ a cap H, v = .slice a 2 cap ∧ L' = [H] ∧ Own 3 273 (ios (pages 1 [p])) a 2 cap H) := by
 have hb := both_spec 1 p
 have e : both 1 p = pages 1 [p] := rfl
 rw [e] at hb
 refine Ctr.enter (n := 5) [.tmp 2] [(0, _)] Tryz.func353 rfl rfl rfl (lb rfl) Tryz.call353 ⟨rfl, trivial⟩ ?_
 intro cx fin fin0
 refine aG ?_
 refine aC (o := hb) (h := ?_)
 rintro _ _ ⟨a, cap, H, rfl, rfl, ho⟩
 refine aG ?_
 refine W.ret (fin _ _ (FinOk.first 1 (.tmp rfl .nil) rfl ?_))
 exact ⟨_, _, _, rfl, rfl, ho⟩
theorem Stores_spec (ps : List Int) (hn : ps.length ≤ 1000) (a0 : Option Addr) (cap0 : Nat) (ro : HL) (hro : RoSl 1 (ints ps) a0 ps.length ro) :
  Ctr Tryz.prog 352 [.slice a0 ps.length cap0] [] ro (fun v L' => ∃ a cap H, v = .slice a (2 * ps.length) cap ∧ L' = [H] ∧ Own 3 273 (ios (pages 2 ps)) a (2 * ps.length) cap H) := by
 refine Ctr.enter (n := 18) [.tmp 2] [(0, _)] Tryz.func352 rfl rfl rfl (lb rfl) Tryz.call352 ⟨rfl, trivial⟩ ?_
 intro cx fin fin0
 refine aG ?_
 refine W.nilChunk ?_
 refine aLp (fun m ρ1 L1 => ∃ (j : Nat) (a : Option Addr) (cap : Nat) (H : HL), j ≤ ps.length ∧ Own 3 273 (ios (pages 2 (ps.take j))) a (2 * j) cap H ∧ m = ps.length - j ∧ ρ1 = [(8, .int .i64 (j : Int)), (7, .int .i64 (ps.length : Int)), (6, .slice a0 ps.length cap0), (3, .slice a (2 * j) cap)] ∧ L1 = [H]) (o := ⟨0, none, 0, [], by omega, Own.nil 3 _, rfl, rfl, rfl⟩) (h := ?_)
 rintro m ρ1 L1 ⟨j, a, cap, H, hj, hown, rfl, rfl, rfl⟩
 refine aG ?_
 by_cases hlt : j < ps.length
 ·
  refine aT ?_ (hb := by simp; omega)
  rcases hro.2 with ⟨h0, _⟩ | ⟨bx, ox, lx, ex, frx, rfl, rfl, hlx, hcx⟩
  · omega
  have hld := int_at hlx hcx hlt
  have hnx := pages_next 2 ps j hlt
  have hc := both_spec 2 ps[j]
  generalize ps[j] = p at hld hnx hc
  refine aV (OpVal.ixSl tab_ok rfl rfl rfl rfl rfl hlt) ?_
  refine aV (OpVal.load tab_ok rfl (at_ro 0 rfl) hld) ?_
  refine aC (o := hc) (h := ?_)
  rintro _ _ ⟨a2, cap2, H2, rfl, rfl, ho2⟩
  refine aG ?_
  obtain ⟨b2, l2, rfl, rfl, hc2, hl2, ht2⟩ := ho2.some (by decide)
  have hs2 : seg? l2 0 (2 * 3) = some (ios (both 2 p)) := by rw [seg?_of _ _ _ (by omega), List.drop_zero, ht2]
  refine aAp (hown) ?_ (hn := hs2) (h1 := (ios_one _))
  rintro _ _ ⟨_, _, _, rfl, rfl, ho⟩
  refine aG ?_
  refine aV (OpVal.add rfl rfl (i64_in _ (by omega))) ?_
  rw [← ios_append, ← hnx] at ho
  refine aR (o := ⟨ps.length - (j + 1), by omega, j + 1, _, _, _, by omega, ho, rfl, rfl, rfl⟩)
 ·
  obtain rfl : j = ps.length := by omega
  refine aF ?_ (hb := by simp)
  refine W.ret (fin _ _ (FinOk.first 1 (.tmp rfl .nil) rfl ?_))
  rw [List.take_length] at hown
  exact ⟨_, _, _, rfl, rfl, hown⟩
theorem PFetch_spec (page old : Int) (dirty : Bool) : Ctr Tryz.prog 324 [.int .i64 page, .bool dirty, .int .i64 old] [] [] (fun v L' => ∃ a cap H, v = .slice a (planFetch page dirty old).length cap ∧ L' = [H] ∧ Own 3 273 (ios (planFetch page dirty old)) a (planFetch page dirty old).length cap H) := by
 have hL := Loads_spec page
 refine Ctr.enter (n := 16) [.tmp 6] [(0, _), (1, _), (2, _)] Tryz.func324 rfl rfl rfl (lb rfl) Tryz.call324 ⟨rfl, rfl, rfl, trivial⟩ ?_
 intro cx fin fin0
 refine aG ?_
 cases dirty with
 | true =>
  refine aT ?_ (hb := by rfl)
  refine aSl (ps := [_]) ?_
  intro bt
  refine aG ?_
  refine aC (o := Stores_spec [old] (by simp) (some ⟨bt, 0, none⟩) 1 [(bt, .cells #[.int .i64 old] 3 (0, 0))] (Own.roSl (Own.exact (m := 1) (cs := ints [old]) bt rfl))) (h := ?_)
  rintro _ _ ⟨a1, cap1, H1, rfl, rfl, ho1⟩
  change Own 3 _ _ _ 2 _ _ at ho1
  refine aG ?_
  refine aC (o := hL) (h := ?_)
  rintro _ _ ⟨a2, cap2, H2, rfl, rfl, ho2⟩
  refine aG ?_
  obtain ⟨b2, l2, rfl, rfl, hc2, hl2, ht2⟩ := ho2.some (by decide)
  have hs2 : seg? l2 0 (2 * 3) = some (ios (pages 1 [page])) := by rw [seg?_of _ _ _ (by omega), List.drop_zero, ht2]
  refine aAp (ho1) ?_ (hn := hs2) (h1 := (ios_one _))
  rintro _ _ ⟨_, _, _, rfl, rfl, ho⟩
  refine aG ?_
  rw [← ios_append] at ho
  refine W.ret (fin _ _ (FinOk.first 1 (.tmp rfl .nil) rfl ?_))
  exact ⟨_, _, _, rfl, rfl, ho⟩
 | false =>
  refine aF ?_ (hb := by rfl)
  refine aC (o := hL) (h := ?_)
  rintro _ _ ⟨a2, cap2, H2, rfl, rfl, ho2⟩
  refine aG ?_
  refine W.ret (fin _ _ (FinOk.first 1 (.tmp rfl .nil) rfl ?_))
  exact ⟨_, _, _, rfl, rfl, ho2⟩
theorem planFlush_len (ps : List Int) : (planFlush ps).length = 2 * ps.length + 1 := by simp [planFlush, pages_len]
theorem PFlush_spec (ps : List Int) (hn : ps.length ≤ 1000) (a0 : Option Addr) (cap0 : Nat) (ro : HL) (hro : RoSl 1 (ints ps) a0 ps.length ro) :
  Ctr Tryz.prog 330 [.slice a0 ps.length cap0] [] ro (fun v L' => ∃ a cap H, v = .slice a (planFlush ps).length cap ∧ L' = [H] ∧ Own 3 273 (ios (planFlush ps)) a (planFlush ps).length cap H) := by
 have hS := Stores_spec ps hn a0 cap0 ro hro
 rw [planFlush_len]
 refine Ctr.enter (n := 8) [.tmp 2] [(0, _)] Tryz.func330 rfl rfl rfl (lb rfl) Tryz.call330 ⟨rfl, trivial⟩ ?_
 intro cx fin fin0
 refine aG ?_
 refine aC (o := hS) (h := ?_)
 rintro _ _ ⟨a1, cap1, H1, rfl, rfl, ho1⟩
 refine aG ?_
 refine aBu (ps := [_]) ?_
 refine aSl (ps := [_]) ?_
 intro bt
 refine aG ?_
 refine aAp (ho1) ?_
 rintro _ _ ⟨_, _, _, rfl, rfl, ho⟩
 refine aG ?_
 refine W.ret (fin _ _ (FinOk.first 1 (.tmp rfl .nil) rfl ?_))
 refine ⟨_, _, _, rfl, rfl, ?_⟩
 rw [planFlush, ios_append]
 exact ho
end Go.Proofs.YtfpghdcjdnifcaaGreat
namespace Go.Sl
open Go
section
variable {P : Program} {n : Nat} {R : HL} {cx : Cx} {ρ : Env} {L : List HL}
def EqD (P : Program) (k : Nat) (t : TypeId) (x y : Value) (b : Bool) : Prop := ∀ (d : Nat) (w : World), (Op.equalIn (d + k) t x y).run P w = .ok b w
theorem EqD.int {t : TypeId} {kk k' : IntKind} {i j : Int} (ht : P.underlying t = some (.int k')) : EqD P 1 t (.int kk i) (.int kk j) (i == j) := fun d w => run_equalIn_int (P := P) w d t kk k' i j ht |>.trans (by simp)
theorem EqD.bool {t : TypeId} {i j : Bool} (ht : P.underlying t = some .bool) : EqD P 1 t (.bool i) (.bool j) (i == j) := fun d w => run_equalIn_bool' (P := P) w d t i j ht
theorem EqD.more {t : TypeId} {x y : Value} {k m : Nat} {b : Bool} (h : EqD P k t x y b) (hk : k ≤ m) : EqD P m t x y b := fun d w => by
 have := h (d + (m - k)) w
 rwa [show d + (m - k) + k = d + m from by omega] at this
def FEq (P : Program) (k : Nat) (xs ys : Array Value) (f : Field) (b : Bool) : Prop :=
 f.name ≠ "_" ∧ ∃ u v, (∀ w, (part f.type xs f.offset).run P w = .ok u w) ∧ (∀ w, (part f.type ys f.offset).run P w = .ok v w) ∧ EqD P k f.type u v b
theorem FEq.one {k : Nat} {xs ys : List Value} {f : Field} {u v : Value} {b : Bool} (hn : f.name ≠ "_") (ha : IsAgg P f.type false) (hu : xs[f.offset]? = some u) (hv : ys[f.offset]? = some v) (h : EqD P k f.type u v b) : FEq P k xs.toArray ys.toArray f b :=
 ⟨hn, u, v, fun w => by simp [part, ha w, hu], fun w => by simp [part, ha w, hv], h⟩
theorem FEq.agg {k m : Nat} {xs ys us vs : List Value} {f : Field} {b : Bool} (hn : f.name ≠ "_") (ha : IsAgg P f.type true) (hz : SizeOf P f.type m) (hu : seg? xs f.offset m = some us) (hv : seg? ys f.offset m = some vs)
  (h : EqD P k f.type (.agg us.toArray) (.agg vs.toArray) b) : FEq P k xs.toArray ys.toArray f b := by
 refine ⟨hn, _, _, fun w => ?_, fun w => ?_, h⟩
 ·
  obtain ⟨h1, h2⟩ := seg?_eq _ _ _ hu
  simp [part, ha w, hz w, h2]
 ·
  obtain ⟨h1, h2⟩ := seg?_eq _ _ _ hv
  simp [part, ha w, hz w, h2]
def FEqs (P : Program) (k : Nat) (xs ys : Array Value) : List Field → List Bool → Prop
 | [], bs => bs = []
 | f :: fs, bs => ∃ b bs', bs = b :: bs' ∧ FEq P k xs ys f b ∧ FEqs P k xs ys fs bs'
def FEqT (P : Program) (k : Nat) (xs ys : Array Value) (t : TypeId) (o : Nat) (b : Bool) : Prop :=
 ∃ u v, (∀ w, (part t xs o).run P w = .ok u w) ∧ (∀ w, (part t ys o).run P w = .ok v w) ∧ EqD P k t u v b
theorem FEqT.one {k : Nat} {xs ys : List Value} {t : TypeId} {o : Nat} {u v : Value} {b : Bool} (ha : IsAgg P t false) (hu : xs[o]? = some u) (hv : ys[o]? = some v) (h : EqD P k t u v b) : FEqT P k xs.toArray ys.toArray t o b :=
 ⟨u, v, fun w => by simp [part, ha w, hu], fun w => by simp [part, ha w, hv], h⟩
theorem FEqT.agg {k m : Nat} {xs ys us vs : List Value} {t : TypeId} {o : Nat} {b : Bool} (ha : IsAgg P t true) (hz : SizeOf P t m) (hu : seg? xs o m = some us) (hv : seg? ys o m = some vs)
  (h : EqD P k t (.agg us.toArray) (.agg vs.toArray) b) : FEqT P k xs.toArray ys.toArray t o b := by
 refine ⟨_, _, fun w => ?_, fun w => ?_, h⟩
 ·
  obtain ⟨h1, h2⟩ := seg?_eq _ _ _ hu
  simp [part, ha w, hz w, h2]
 ·
  obtain ⟨h1, h2⟩ := seg?_eq _ _ _ hv
  simp [part, ha w, hz w, h2]
def FSigs (P : Program) (k : Nat) (xs ys : Array Value) : List (Bool × TypeId × Nat) → List Bool → Prop
 | [], bs => bs = []
 | s :: r, bs => ∃ b bs', bs = b :: bs' ∧ s.1 = false ∧ FEqT P k xs ys s.2.1 s.2.2 b ∧ FSigs P k xs ys r bs'
theorem FEqs.of_sig {k : Nat} {xs ys : Array Value} : ∀ {fs : List Field} {sig : List (Bool × TypeId × Nat)} {bs : List Bool}, fs.map (fun f => (f.name == "_", f.type, f.offset)) = sig → FSigs P k xs ys sig bs → FEqs P k xs ys fs bs
 | [], sig, bs, h, hs => by subst h; exact hs
 | f :: fs, sig, bs, h, hs => by
  subst h
  obtain ⟨b, bs', rfl, hn, ⟨u, v, h1, h2, h3⟩, hr⟩ := hs
  exact ⟨b, bs', rfl, ⟨by simpa using hn, u, v, h1, h2, h3⟩, FEqs.of_sig rfl hr⟩
def allB : List Bool → Bool
 | [] => true
 | b :: bs => b && allB bs
theorem eqFields_run {k : Nat} {xs ys : Array Value} (d : Nat) (w : World) : ∀ {fs : List Field} {bs : List Bool}, FEqs P k xs ys fs bs → (Op.eqFields (d + k) xs ys fs).run P w = .ok (allB bs) w
 | [], bs, h => by cases h; rfl
 | f :: fs, bs, h => by
  obtain ⟨b, bs', rfl, ⟨hn, u, v, h1, h2, h3⟩, h4⟩ := h
  have ih := eqFields_run d w h4
  simp only [Op.eqFields, hn, ne_eq, not_false_eq_true, if_true, Sem.run_bind, h1, h2, Result.andThen_ok, h3 d w]
  cases b
  · simp [allB]
  · simpa [allB] using ih
theorem EqD.struct {t : TypeId} {fs : Array Field} {k : Nat} {xs ys : Array Value} {bs : List Bool} (ht : P.underlying t = some (.struct fs)) (hh : P.stoodInHeld t = false) (h : FEqs P k xs ys fs.toList bs) :
  EqD P (k + 1) t (.agg xs) (.agg ys) (allB bs) := fun d w => by
 have hf : P.fieldsOf t = fs := by simp [Program.fieldsOf, ht]
 rw [← Nat.add_assoc, run_equalIn_struct (P := P) w (d + k) t _ _ (by rw [hf]; exact ht) hh, hf]
 exact eqFields_run d w h
theorem eqItems_run {e : TypeId} {kk k' : IntKind} (ha : IsAgg P e false) (he : P.underlying e = some (.int k')) (xs ys : List Int) (d : Nat) (w : World) : ∀ (is : List Nat), (∀ i ∈ is, i < xs.length ∧ i < ys.length) →
  (Op.eqItems (d + 1) e 1 (xs.map (.int kk)).toArray (ys.map (.int kk)).toArray is).run P w = .ok (is.all fun i => xs[i]? == ys[i]?) w
 | [], _ => rfl
 | i :: is, h => by
  obtain ⟨h1, h2⟩ := h i (by simp)
  have ih := eqItems_run (kk := kk) ha he xs ys d w is (fun j hj => h j (by simp [hj]))
  have p1 : (part e (xs.map (.int kk)).toArray (i * 1)).run P w = .ok (.int kk xs[i]) w := by simp [part, ha w, h1]
  have p2 : (part e (ys.map (.int kk)).toArray (i * 1)).run P w = .ok (.int kk ys[i]) w := by simp [part, ha w, h2]
  have p3 := EqD.int (P := P) (t := e) (kk := kk) (k' := k') (i := xs[i]) (j := ys[i]) he d w
  simp only [Op.eqItems, Sem.run_bind, p1, p2, p3, Result.andThen_ok]
  by_cases hx : xs[i] = ys[i]
  · simpa [hx, h1, h2] using ih
  · simp [hx, h1, h2]
theorem all_eq (xs ys : List Int) (h : xs.length = ys.length) : ((List.range xs.length).all fun i => xs[i]? == ys[i]?) = decide (xs = ys) := by
 by_cases he : xs = ys
 · subst he; simp
 ·
  simp only [he, decide_false]
  cases hx : (List.range xs.length).all fun i => xs[i]? == ys[i]? with
  | false => rfl
  | true =>
   exfalso
   apply he
   apply List.ext_getElem?
   intro i
   by_cases hi : i < xs.length
   ·
    have := List.all_eq_true.1 hx i (by simpa using hi)
    simpa using this
   · rw [List.getElem?_eq_none (by omega), List.getElem?_eq_none (by omega)]
theorem EqD.arr {t e : TypeId} {m : Nat} {i : TypeInfo} {kk k' : IntKind} {xs ys : List Int} (hu : P.underlying t = some (.array m e)) (hi : P.info? e = some i) (hc : P.cellsOf e = 1) (ha : IsAgg P e false) (he : P.underlying e = some (.int k'))
  (hx : xs.length = m) (hy : ys.length = m) : EqD P 2 t (.agg (xs.map (.int kk)).toArray) (.agg (ys.map (.int kk)).toArray) (decide (xs = ys)) := fun d w => by
 rw [show d + 2 = d + 1 + 1 from rfl, run_equalIn_array (P := P) w (d + 1) _ _ hu hi, hc, eqItems_run ha he xs ys d w _ (fun i hi => by simp at hi; omega)]
 subst hx
 rw [all_eq xs ys hy.symm]
theorem OpVal.neD {t t' ty : TypeId} {x y : Operand} {k : Nat} {xs ys : Array Value} {b : Bool} (hx : ev? ρ x = some (.agg xs)) (hy : ev? ρ y = some (.agg ys)) (h : EqD P k t (.agg xs) (.agg ys) b) (hk : k ≤ 10000) (hg : P.eqGuardType P.depth t = false) :
  OpVal P n R cx (.binOp .neq t x y t') ty ρ L (.bool (!b)) :=
 .eqOf hx hy fun w => by
  have h1 := h (10000 - k) w
  rw [show 10000 - k + k = 10000 from by omega] at h1
  rw [Sem.run_bind, run_eqGuard_agg w _ t x y _ _ hg]
  simp only [Result.andThen_ok]
  rw [run_neq_struct, h1]
  rfl
end
end Go.Sl
namespace Go.Proofs.YtfpghdcjdnifcaaGreat
open Go Go.Sl Go.IntWalk
set_option maxHeartbeats 4000000
set_option maxRecDepth 20000
end Go.Proofs.YtfpghdcjdnifcaaGreat
namespace Go.Sl
set_option linter.unusedVariables false
open Go
section
variable {P : Program} {n : Nat} {R : HL} {cx : Cx} {ρ : Env} {L : List HL}
theorem St.grow {w : World} {ro : HL} (hro : ∀ p ∈ ro, w.heap[p.1]? = some p.2) (k : Nat) (os : Array Obj) : St w (ids ([] : List HL).flatten) ro [] (Go.Sort.grow (w.drewN k) os) := by
 refine ⟨fun _ h => by simp at h, by simp [ids], fun b hb _ => ?_, fun _ h => by simp [ids] at h, by simp [Go.Sort.grow, World.drewN], fun p hp => ⟨hro p hp, by simp [ids]⟩, ⟨rfl, rfl, rfl⟩⟩
 simp only [Go.Sort.grow, World.drewN]
 rw [Array.getElem?_append_left hb]
theorem OpVal.back {T : Tab} (hT : TabOk P T) {t e ty : TypeId} {x y : Operand} {a : Option Addr} {len cap m l : Nat} {ag : Bool} {kk : IntKind} {i : Int}
  (hx : ev? ρ x = some (.slice a len cap)) (ht : look? T.sls t = some e) (hz : look? T.tys e = some (ag, m)) (hy : ev? ρ y = some (.int kk i)) (hi : i = (l : Int)) (h1 : l ≤ len) (h2 : len ≤ cap) :
  OpVal P n R cx (.slice t x (some y) none none) ty ρ L (.slice (a.map fun ad => if cap = l then ad else ad.add (l * m)) (len - l) (cap - l)) := by
 subst hi
 refine ⟨fun oo ac w ho hty hf hs => ?_⟩
 have hu := hT.sls _ (look?_mem ht)
 have hz' := (hT.tys _ (look?_mem hz)).2
 have bnd : ∀ (cd : BoundsCode), (Instr.sliceBound (ac.eval y) len cd).run P w = .ok l w := by
  intro cd
  simp [Instr.sliceBound, hf.ev hy, asIntOf, h1]
 have hne : (a.map fun ad => if cap = l then ad else ad.add (l * m)) = if cap = l then a else a.map (·.add (l * m)) := by cases a <;> split <;> simp
 rw [hne]
 unfold execOp; rw [ho]
 cases a <;> simp [Instr.sliceAt, Instr.slice, Instr.sliceBounds, underlying, hu, hf.ev hx, hz' w, bnd]
theorem RoSl.drop {α : Type} {f : α → List Value} {m : Nat} (hf : ∀ x, (f x).length = m) {xs : List α} {a : Option Addr} {ro : HL} {cap : Nat} (h : RoSl m (xs.flatMap f) a xs.length ro) (l : Nat) (hl : l ≤ xs.length) :
  RoSl m ((xs.drop l).flatMap f) (a.map fun ad => if cap = l then ad else ad.add (l * m)) (xs.length - l) ro ∨ (cap = l ∧ l < xs.length) := by
 by_cases hcl : cap = l ∧ l < xs.length
 · exact .inr hcl
 refine .inl ⟨by rw [flatMap_len f m hf, List.length_drop], ?_⟩
 rcases h.2 with ⟨h1, h2⟩ | ⟨b, off, q, e', fr, h1, h2, h3, h4⟩
 · exact .inl ⟨by omega, h2⟩
 ·
  have e1 : xs.length * m = l * m + (xs.length - l) * m := by rw [← Nat.add_mul]; congr 1; omega
  by_cases hc : cap = l
  ·
   have hll : l = xs.length := by omega
   refine .inr ⟨b, off, q, e', fr, by rw [h1]; simp [hc], h2, by omega, ?_⟩
   rw [hll]
   simp
  ·
   refine .inr ⟨b, off + l * m, q, e', fr, by rw [h1]; simp [hc, Addr.add], h2, by omega, ?_⟩
   have e2 : xs.flatMap f = (xs.take l).flatMap f ++ (xs.drop l).flatMap f := by rw [← List.flatMap_append, List.take_append_drop]
   have e3 : ((xs.take l).flatMap f).length = l * m := by rw [flatMap_len f m hf, List.length_take]; congr 1; omega
   have e4 : (xs.drop l).flatMap f = (xs.flatMap f).drop (l * m) := by rw [e2, ← e3, List.drop_left]
   rw [e4, ← h4, List.drop_take, List.drop_drop]
   congr 1
   omega
theorem OpVal.lookup1 {α : Type} {f : α → Value} {t kt et ty : TypeId} {x y : Operand} {b clock : Nat} {es : Array MapEntry} {m : List (Int × α)} {kk : IntKind} {key : Int} {u : α}
  (ht : P.underlying t = some (.map kt et)) (hk : P.underlying kt = some (.int kk)) (hx : ev? ρ x = some (.map (some b))) (hy : ev? ρ y = some (.int kk key))
  (hb : At R L b (.map es clock)) (hm : MapIs kk f es.toList m) (hu : mget m key = some u) :
  OpVal P n R cx (.lookup t x y false) ty ρ L (f u) := by
 refine ⟨fun oo a w ho hty hf hs => ?_⟩
 have hg := MapKept.run_getObj_map (P := P) (hb.heap hs)
 have hck := fun e => MapKept.run_checkKey (P := P) (w := w) (k := .int kk key) hk (by simp [MapKept.IsKey]) e 9999
 unfold execOp; rw [ho]
 rcases find_spec (k' := kk) key es.toList m 0 hm with ⟨g1, g2, _, _⟩ | ⟨j, v, e, g1, g2, _, _, _, _, _⟩
 · rw [hu] at g1; cases g1
 ·
  rw [hu] at g1
  cases g1
  simp [Instr.lookup, hf.ev hx, hf.ev hy, run_underlying ht, hg, hck, MapKept.run_findKey hk g2, Result.andThen]
theorem WD.callV {ops : Array Oper} {K : Env → List HL → Prop} {el : List Kd} {fl : List (Nat × Obj)} {Y : List HL} {d : Nat} {c : Call} {ty : TypeId} {pos : String} {af : Array Edge} {l : List Oper} {fo : Operand} {xs : Array Operand} {tys : Array TypeId}
  {fv : Value} {vs : List Value} {pre rest : List HL} {ro : HL} {post : Value → List HL → Prop}
  (hc : c = ⟨.value fo, xs, tys⟩) (hfo : ev? ρ fo = some fv) (hxs : evs? ρ xs.toList = some vs)
  (hsp : CtrV P fv vs pre ro post) (hsel : Sel Y pre rest) (hro : RoIn R rest ro) (hd : d < n)
  (hk : ∀ v L', post v L' → WD P n R cx ops el fl l ((d, v) :: ρ) (L' ++ rest) K) :
  WD P n R cx ops (.b true :: el) fl (⟨some d, .call c, ty, pos, af, none⟩ :: l) ρ Y K := by
 refine WD.act rfl fun a w hf hs => ?_
 have hxs' := hf.evs hxs
 have hx : xs.map a.eval = vs.toArray := by cases xs; simp at hxs'; simp [hxs']
 subst hc
 obtain ⟨f, args', hrun, hctr⟩ := hsp.go
 have hr : (execOp a.eval ⟨some d, .call ⟨.value fo, xs, tys⟩, ty, pos, af, none⟩).run P w = .ok (.enter f args'.toArray) w := by
  unfold execOp
  simp only [resolve, hf.ev hfo, hx]
  exact hrun w
 refine .inr (.inr ⟨_, _, _, hr, (hctr.use2 hs hsel hro).mono ?_⟩)
 rintro e w' ⟨v, L', rfl, hpost, hst⟩
 exact ⟨v, rfl, _, _, hf.put hd v, hst, hk v L' hpost⟩
theorem Ctr.own {f : FuncId} {args : List Value} {pre : List HL} {ro ro1 H : HL} {post : Value → List HL → Prop} (h : Ctr P f args pre ro post) (hr : ∀ p ∈ ro, p ∈ H ∨ p ∈ ro1) :
  Ctr P f args (pre ++ [H]) ro1 (fun v L' => ∃ L1, L' = L1 ++ [H] ∧ post v L1) := by
 refine ⟨h.callable, fun w hhas hnd hro => ?_⟩
 have hst : St w (ids (pre ++ [H]).flatten) ro1 (pre ++ [H]) w := ⟨hhas, hnd, fun _ _ _ => rfl, fun b hb => .inl hb, Nat.le_refl _, hro, ⟨rfl, rfl, rfl⟩⟩
 refine (h.use hst (Sel.front pre [H]) (fun p hp => (hr p hp).imp (fun h => by simpa using h) id)).mono ?_
 rintro e w' ⟨v, L', he, hp, hs⟩
 exact ⟨v, L' ++ [H], he, ⟨L', rfl, hp⟩, hs⟩
theorem Ctr.ro {f : FuncId} {args : List Value} {pre : List HL} {ro ro1 : HL} {post : Value → List HL → Prop} (h : Ctr P f args pre ro post) (hr : ∀ p ∈ ro, p ∈ ro1) : Ctr P f args pre ro1 post :=
 ⟨h.callable, fun w h1 h2 h3 => (h.go w h1 h2 fun p hp => h3 p (hr p hp)).mono fun e w' ⟨v, L', e1, e2, e3⟩ => ⟨v, L', e1, e2, ⟨e3.has, e3.nd, e3.fr, e3.own, e3.sz, fun p hp => h3 p hp, e3.env⟩⟩⟩
theorem Ctr.sel {f : FuncId} {args : List Value} {pre pre' X : List HL} {ro : HL} {post : Value → List HL → Prop} (h : Ctr P f args pre ro post) (hsel : Sel pre' pre X) (hro : ∀ p ∈ ro, p ∈ ro) :
  Ctr P f args pre' ro (fun v L' => ∃ L1, L' = L1 ++ X ∧ post v L1) := by
 refine ⟨h.callable, fun w hhas hnd hr => ?_⟩
 have hst : St w (ids pre'.flatten) ro pre' w := ⟨hhas, hnd, fun _ _ _ => rfl, fun b hb => .inl hb, Nat.le_refl _, hr, ⟨rfl, rfl, rfl⟩⟩
 refine (h.use hst hsel (fun p hp => .inr hp)).mono ?_
 rintro e w' ⟨v, L', he, hp, hs⟩
 exact ⟨v, L' ++ X, he, ⟨L', rfl, hp⟩, hs⟩
theorem mapIns {α : Type} {f : α → Value} {t kt et ty : TypeId} {x y u : Operand} {b : Nat} {m : List (Int × α)} {kk : IntKind} {key : Int} {v : α} {H : HL}
  (ht : P.underlying t = some (.map kt et)) (hk : P.underlying kt = some (.int kk)) (hx : ev? ρ x = some (.map (some b))) (hy : ev? ρ y = some (.int kk key)) (hu : ev? ρ u = some (f v))
  (hH : ∀ p ∈ H, p ∈ L.flatten) (hm : IsMp kk f m b H) : Skips P n R cx (.insert t x y u) ty ρ L [H] (fun L' => ∃ H', L' = [H'] ∧ IsMp kk f (mput m key v) b H') := by
 have h := mapPut (P := P) (n := n) (R := R) (cx := cx) (ty := ty) ht hk hx hy hu hH hm
 refine ⟨fun oo a w ho hty hf hs => ?_⟩
 have h1 := h.go { oo with op := .mapUpdate t x y u } a w rfl hty hf hs
 have e : execOp a.eval oo = execOp a.eval { oo with op := .mapUpdate t x y u } := by unfold execOp; rw [ho]
 rw [e]
 exact h1
theorem Ctr.out {f : FuncId} {args : List Value} {pre : List HL} {ro : HL} {post post' : Value → List HL → Prop} (h : Ctr P f args pre ro post) (hp : ∀ v L', post v L' → ∃ M N X, Sel L' M X ∧ M.flatten = N.flatten ∧ post' v N) : Ctr P f args pre ro post' := by
 refine ⟨h.callable, fun w hhas hnd hro => (h.go w hhas hnd hro).mono ?_⟩
 rintro e w' ⟨v, L', he, hq, hs⟩
 obtain ⟨M, N, X, h1, h2, h3⟩ := hp v L' hq
 refine ⟨v, N, he, h3, hs.perm (X := X.flatten) ?_⟩
 rw [← h2]
 exact h1.perm
theorem appU8 {T : Tab} (hT : TabOk P T) {t e bytes ty : Nat} {s x : Operand} {xs ys : List Int} {a ax : Option Addr} {cap cxx : Nat} {H ro : HL}
  (ht : look? T.sls t = some e) (hi : look? T.infs e = some (1, bytes)) (hs : ev? ρ s = some (.slice a xs.length cap)) (ho : Own 1 e (u8s xs) a xs.length cap H) (hH : ∀ p ∈ H, p ∈ L.flatten)
  (hx : ev? ρ x = some (.slice ax ys.length cxx)) (hr : RoSl 1 (u8s ys) ax ys.length ro) (hro : ∀ p ∈ ro, At R L p.1 p.2) (hbig : (xs.length + ys.length) * bytes ≤ 140737488355328) (hbig2 : xs.length + ys.length ≤ 140737488355328) :
  Prim P n R cx (.call ⟨.builtin .append, #[s, x], #[t, t]⟩) ty ρ L [H] (fun v L' => ∃ a' cap' H', v = .slice a' (xs ++ ys).length cap' ∧ L' = [H'] ∧ Own 1 e (u8s (xs ++ ys)) a' (xs ++ ys).length cap' H') :=
 (appRo hT ht hi hs ho hH hx hr hro (u8s_one _) hbig hbig2).post fun v L' ⟨a', c', H', e1, e2, e3⟩ => ⟨a', c', H', by rw [e1, List.length_append], e2, by rw [u8s_append, List.length_append]; exact e3⟩
end
end Go.Sl
namespace Go.Proofs.YtfpghdcjdnifcaaGreat
open Go Go.Sl Go.IntWalk
set_option maxRecDepth 20000
set_option maxHeartbeats 1000000
theorem of_no (a : Option Addr) (k : Int) (h : ¬ (0 ≤ k ∧ k < 6)) : Ctr Tryz.prog 321 [.pointer a, .int .i64 k] [] [] (fun v L' => v = .pointer none ∧ L' = []) := by
 refine Ctr.enter (n := 32) [.tmp 4] [(0, _), (1, _)] Tryz.func321 rfl rfl rfl (lb rfl) Tryz.call321 ⟨rfl, rfl, trivial⟩ ?_
 intro cx fin fin0
 refine aG ?_
 by_cases h0 : k < 0
 ·
  refine aSk ?_ (hw := by exact gd h0)
  refine aSk ?_ (hw := by exact gd h0)
  refine aPT ?_ (hb := by exact gd h0)
  refine aT ?_
  refine W.ret (fin _ _ (FinOk.mk' ([]) (.tmp rfl .nil) (by repeat (first | exact Sel.nil | (apply Sel.cons; (repeat (first | exact Pick.here | apply Pick.there))))) rfl ?_))
  exact ⟨rfl, rfl⟩
 ·
  refine aGo ?_ (hw := by exact gd h0)
  refine aGo ?_ (hw := by exact gd h0)
  refine aPF ?_ (hb := by exact gd h0)
  refine aT ?_ (hb := by simp; omega)
  refine W.ret (fin _ _ (FinOk.mk' ([]) (.tmp rfl .nil) (by repeat (first | exact Sel.nil | (apply Sel.cons; (repeat (first | exact Pick.here | apply Pick.there))))) rfl ?_))
  exact ⟨rfl, rfl⟩
theorem of_yes (b : Nat) (j : Nat) (h : j < 6) : Ctr Tryz.prog 321 [.pointer (some ⟨b, 0, none⟩), .int .i64 (j : Int)] [] [] (fun v L' => v = .pointer (some ⟨b, j, none⟩) ∧ L' = []) := by
 have h0 : ¬ ((j : Int) < 0) := by omega
 refine Ctr.enter (n := 32) [.tmp 4] [(0, _), (1, _)] Tryz.func321 rfl rfl rfl (lb rfl) Tryz.call321 ⟨rfl, rfl, trivial⟩ ?_
 intro cx fin fin0
 refine aG ?_
 refine aGo ?_ (hw := by exact gd h0)
 refine aGo ?_ (hw := by exact gd h0)
 refine aPF ?_ (hb := by exact gd h0)
 refine aF ?_ (hb := by simp; omega)
 refine W.draw follows (by decide +kernel) (zG ?_)
 refine zV (OpVal.build (ps := [_, _, _, _, _, _]) tab_ok rfl rfl rfl rfl (by repeat (first | exact trivial | refine ⟨⟨_, _, _, rfl, rfl, rfl⟩, ?_⟩)) rfl) ?_
 have hk : j = 0 ∨ j = 1 ∨ j = 2 ∨ j = 3 ∨ j = 4 ∨ j = 5 := by omega
 rcases hk with rfl | rfl | rfl | rfl | rfl | rfl
 all_goals
  refine zV (OpVal.ix1 tab_ok rfl rfl rfl rfl rfl (by decide) rfl) ?_
  refine WZ.nil (aG ?_)
  refine W.ret (fin _ _ (FinOk.mk' ([]) (.tmp rfl .nil) (by repeat (first | exact Sel.nil | (apply Sel.cons; (repeat (first | exact Pick.here | apply Pick.there))))) rfl ?_))
  exact ⟨rfl, rfl⟩
def tog (a b : Int) : Int := if a + b < 18446744073709551616 then a + b else 18446744073709551615
theorem add64_run (a b : Int) (ha : 0 ≤ a) (hb : 0 ≤ b) (w : World) : (callFunc 350 #[.int .u64 a, .int .u64 b, .int .u64 0]).run Tryz.prog w =
  .ok (.value (.tuple #[.int .u64 ((a + b + 0) % 18446744073709551616), .int .u64 ((a + b + 0) / 18446744073709551616)])) w := by
 have hfind : Extern.find Tryz.f350 = some add64Entry := by kernel_rfl
 have hnext : Extern.findNext Tryz.f350 = none := by kernel_rfl
 have hname : (Tryz.f350.name == "runtime.NumGoroutine") = false := by kernel_rfl
 have hbody : Tryz.f350.body.isNone = true := by kernel_rfl
 unfold callFunc
 simp only [Sem.run_bind, run_program, Result.andThen_ok, Tryz.func350, hname, hbody, hfind, hnext, Bool.false_eq_true, if_false, if_true, run_mark, run_add64 a b 0 ha hb (by omega) (by omega)]
 rfl
theorem together_spec (a b : Int) (ha : 0 ≤ a ∧ a < 18446744073709551616) (hb : 0 ≤ b ∧ b < 18446744073709551616) :
  Ctr Tryz.prog 322 [.int .u64 a, .int .u64 b] [] [] (fun v L' => v = .int .u64 (tog a b) ∧ L' = []) := by
 refine Ctr.enter (n := 16) [.tmp 4] [(0, _), (1, _)] Tryz.func322 rfl rfl rfl (lb rfl) Tryz.call322 ⟨rfl, rfl, trivial⟩ ?_
 intro cx fin fin0
 refine aG ?_
 refine aV (OpVal.callX (vs := [_, _, _]) rfl rfl rfl (add64_run a b ha.1 hb.1)) ?_
 by_cases h : a + b < 18446744073709551616
 ·
  refine aF ?_ (hb := by simp; omega)
  refine W.ret (fin _ _ (FinOk.mk' ([]) (.tmp rfl .nil) (by repeat (first | exact Sel.nil | (apply Sel.cons; (repeat (first | exact Pick.here | apply Pick.there))))) rfl ?_))
  refine ⟨?_, rfl⟩
  simp only [pack, tog, if_pos h]
  congr 1
  omega
 ·
  refine aT ?_ (hb := by simp; omega)
  refine W.ret (fin _ _ (FinOk.mk' ([]) (.tmp rfl .nil) (by repeat (first | exact Sel.nil | (apply Sel.cons; (repeat (first | exact Pick.here | apply Pick.there))))) rfl ?_))
  refine ⟨?_, rfl⟩
  simp only [pack, tog, if_neg h]
theorem tog_range {a b : Int} (ha : 0 ≤ a ∧ a < 18446744073709551616) (hb : 0 ≤ b ∧ b < 18446744073709551616) : 0 ≤ tog a b ∧ tog a b < 18446744073709551616 := by
 unfold tog; split <;> omega
structure C6 where
 (h m e r w f : Int)
 deriving DecidableEq
def C6.l (c : C6) : List Value := [.int .u64 c.h, .int .u64 c.m, .int .u64 c.e, .int .u64 c.r, .int .u64 c.w, .int .u64 c.f]
def C6.v (c : C6) : Value := .agg #[.int .u64 c.h, .int .u64 c.m, .int .u64 c.e, .int .u64 c.r, .int .u64 c.w, .int .u64 c.f]
def u64 (a : Int) : Prop := 0 ≤ a ∧ a < 18446744073709551616
def C6.Ok (c : C6) : Prop := u64 c.h ∧ u64 c.m ∧ u64 c.e ∧ u64 c.r ∧ u64 c.w ∧ u64 c.f
def C6.add (c : C6) (k : Int) (n : Int) : C6 :=
 if k = 0 then { c with h := tog c.h n } else if k = 1 then { c with m := tog c.m n } else if k = 2 then { c with e := tog c.e n }
 else if k = 3 then { c with r := tog c.r n } else if k = 4 then { c with w := tog c.w n } else if k = 5 then { c with f := tog c.f n } else c
def C6.get (c : C6) (k : Int) : Int × Bool :=
 if k = 0 then (c.h, true) else if k = 1 then (c.m, true) else if k = 2 then (c.e, true) else if k = 3 then (c.r, true) else if k = 4 then (c.w, true) else if k = 5 then (c.f, true) else (0, false)
theorem C6.add_ok {c : C6} (hc : c.Ok) (k : Int) {n : Int} (hn : u64 n) : (c.add k n).Ok := by
 obtain ⟨h1, h2, h3, h4, h5, h6⟩ := hc
 unfold C6.add
 repeat' split
 all_goals exact ⟨by first | exact tog_range h1 hn | assumption, by first | exact tog_range h2 hn | assumption, by first | exact tog_range h3 hn | assumption, by first | exact tog_range h4 hn | assumption,
  by first | exact tog_range h5 hn | assumption, by first | exact tog_range h6 hn | assumption⟩
theorem C6.get_u64 {c : C6} (hc : c.Ok) (k : Int) : u64 (c.get k).1 := by
 obtain ⟨h1, h2, h3, h4, h5, h6⟩ := hc
 unfold C6.get
 repeat' split
 all_goals first | assumption | exact ⟨by decide, by decide⟩
theorem kinds {k : Int} (h : 0 ≤ k ∧ k < 6) : k = ((0 : Nat) : Int) ∨ k = ((1 : Nat) : Int) ∨ k = ((2 : Nat) : Int) ∨ k = ((3 : Nat) : Int) ∨ k = ((4 : Nat) : Int) ∨ k = ((5 : Nat) : Int) := by omega
theorem Add_spec (c : C6) (k n : Int) (hc : c.Ok) (hn : u64 n) : Ctr Tryz.prog 288 [c.v, .int .i64 k, .int .u64 n] [] [] (fun v L' => v = (c.add k n).v ∧ L' = []) := by
 obtain ⟨h1, h2, h3, h4, h5, h6⟩ := hc
 refine Ctr.enter (n := 20) [.cell 6 57] [(0, _), (1, _), (2, _)] Tryz.func288 rfl rfl rfl (lb rfl) Tryz.call288 ⟨rfl, rfl, rfl, trivial⟩ ?_
 intro cx fin fin0
 refine aG ?_
 repeat (first | refine gw ?_ | refine gN fun _ => ?_ | refine gB fun _ => ?_ | fail)
 by_cases hk : 0 ≤ k ∧ k < 6
 ·
  rcases kinds hk with rfl | rfl | rfl | rfl | rfl | rfl
  all_goals
   refine aC (o := of_yes _ _ (by omega)) (h := ?_)
   rintro _ _ ⟨rfl, rfl⟩
   refine aG ?_
   refine aV (OpVal.neNil tab_ok rfl rfl rfl) ?_
   refine aT ?_
   repeat refine gw ?_
   refine aC (o := together_spec _ _ (by assumption) hn) (h := ?_)
   rintro _ _ ⟨rfl, rfl⟩
   refine aG ?_
   repeat refine gw ?_
   refine W.ret (fin _ _ (FinOk.mk' ([]) (aRc .nil) (by repeat (first | exact Sel.nil | (apply Sel.cons; (repeat (first | exact Pick.here | apply Pick.there))))) rfl ?_))
   exact ⟨rfl, rfl⟩
 ·
  refine aC (o := of_no _ _ hk) (h := ?_)
  rintro _ _ ⟨rfl, rfl⟩
  refine aG ?_
  refine aV (OpVal.neNil tab_ok rfl rfl rfl) ?_
  refine aF ?_
  repeat refine gw ?_
  refine W.ret (fin _ _ (FinOk.mk' ([]) (aRc .nil) (by repeat (first | exact Sel.nil | (apply Sel.cons; (repeat (first | exact Pick.here | apply Pick.there))))) rfl ?_))
  refine ⟨?_, rfl⟩
  unfold C6.add
  repeat rw [if_neg (by omega)]
  rfl
end Go.Proofs.YtfpghdcjdnifcaaGreat
namespace Go.Proofs.YtfpghdcjdnifcaaGreat
open Go Go.Sl Go.IntWalk
set_option maxHeartbeats 4000000
set_option maxRecDepth 20000
def fill (bs : List Int) (n : Nat) : List Int := (List.range n).map fun i => if bs.length = 0 then 0 else bs.getD (i % bs.length) 0
end Go.Proofs.YtfpghdcjdnifcaaGreat
namespace Go.Proofs.YtfpghdcjdnifcaaGreat
set_option linter.unusedVariables false
open Go Go.Sl Go.IntWalk
set_option maxHeartbeats 2000000
set_option maxRecDepth 20000
structure Fr where
 used : Bool
 dirty : Bool
 ref : Bool
 pins : Int
 page : Int
 b : List Int
def Fr.l (f : Fr) : List Value := .bool f.used :: .bool f.dirty :: .bool f.ref :: .int .i64 f.pins :: .int .i64 f.page :: f.b.map (.int .u8)
def Fr.v (f : Fr) : Value := .agg f.l.toArray
def Fr.Ok (f : Fr) : Prop := f.b.length = 32
def Fr.zero : Fr := ⟨false, false, false, 0, 0, List.replicate 32 0⟩
theorem Fr.zero_ok : Fr.zero.Ok := rfl
theorem Fr.l_len {f : Fr} (h : f.Ok) : f.l.length = 37 := by unfold Fr.Ok at h; simp [Fr.l, h]
theorem one_ints (kk : IntKind) : ∀ b : List Int, allOne (b.map (.int kk)) = true
 | [] => rfl
 | x :: b => one_ints kk b
theorem Fr.l_one (f : Fr) : allOne f.l = true := one_ints .u8 f.b
structure Pt where
 fs : List Fr
 tbl : List (Int × Int)
 hand : Int
def Pt.Ok (p : Pt) : Prop := (∀ f ∈ p.fs, f.Ok) ∧ 1 ≤ p.fs.length ∧ p.fs.length ≤ 64
def flat (fs : List Fr) : List Value := fs.flatMap Fr.l
theorem flat_len {fs : List Fr} (h : ∀ f ∈ fs, f.Ok) : (flat fs).length = fs.length * 37 := by
 induction fs with
 | nil => rfl
 | cons f fs ih =>
  have h1 := ih (fun g hg => h g (by simp [hg]))
  unfold flat at h1 ⊢
  simp only [List.flatMap_cons, List.length_append, h1, List.length_cons, Fr.l_len (h f (by simp))]
  omega
theorem flat_append (a b : List Fr) : flat (a ++ b) = flat a ++ flat b := by simp [flat]
theorem flat_split {fs : List Fr} {i : Nat} (hi : i < fs.length) : flat fs = flat (fs.take i) ++ fs[i].l ++ flat (fs.drop (i + 1)) := by
 have : fs = fs.take i ++ (fs[i] :: fs.drop (i + 1)) := by simp
 conv => lhs; rw [this]
 rw [flat_append]
 simp only [flat, List.flatMap_cons, List.append_assoc]
theorem take_flat_len {fs : List Fr} (h : ∀ f ∈ fs, f.Ok) {i : Nat} (hi : i ≤ fs.length) : (flat (fs.take i)).length = i * 37 := by
 rw [flat_len (fun f hf => h f (List.mem_of_mem_take hf)), List.length_take]
 congr 1
 omega
theorem flat_set {fs : List Fr} {i : Nat} (hi : i < fs.length) (g : Fr) : flat (fs.set i g) = flat (fs.take i) ++ g.l ++ flat (fs.drop (i + 1)) := by
 rw [flat_split (by simpa using hi)]
 rw [List.take_set_of_le (Nat.le_refl _), List.drop_set_of_lt (by omega)]
 simp
theorem get_mid {A M B : List Value} {off o : Nat} (hA : A.length = off) (ho : o < M.length) : (A ++ M ++ B)[off + o]? = M[o]? := by
 subst hA
 rw [List.append_assoc, List.getElem?_append_right (by omega), List.getElem?_append_left (by omega)]
 congr 1
 omega
theorem seg_mid {A M B vs : List Value} {off o m : Nat} (hA : A.length = off) (h : seg? M o m = some vs) : seg? (A ++ M ++ B) (off + o) m = some vs := by
 obtain ⟨h1, h2⟩ := seg?_eq M o m h
 subst hA h2
 rw [seg?_of _ _ _ (by simp; omega)]
 congr 1
 rw [List.append_assoc, List.drop_append, List.drop_of_length_le (by omega), List.nil_append, show A.length + o - A.length = o from by omega, List.drop_append_of_le_length (by omega), List.take_append_of_le_length (by simp; omega)]
theorem splice_mid {A M B M' vs : List Value} {off o : Nat} (hA : A.length = off) (h : splice? M o vs = some M') : splice? (A ++ M ++ B) (off + o) vs = some (A ++ M' ++ B) := by
 obtain ⟨h1, h2⟩ := splice?_eq M o vs h
 subst hA h2
 rw [splice?_of _ _ _ (by simp; omega)]
 congr 1
 simp only [List.append_assoc]
 rw [List.take_append, List.take_of_length_le (by omega), show A.length + o - A.length = o from by omega, List.take_append_of_le_length (by omega), List.append_assoc]
 congr 2
 congr 1
 rw [List.drop_append, List.drop_of_length_le (by omega), List.nil_append, show A.length + o + vs.length - A.length = o + vs.length from by omega, List.drop_append_of_le_length (by omega)]
theorem seg_all (l : List Value) : seg? l 0 l.length = some l := by rw [seg?_of _ _ _ (by omega)]; simp
theorem splice_all {l vs : List Value} (h : vs.length = l.length) : splice? l 0 vs = some vs := by rw [splice?_of _ _ _ (by omega)]; simp [h]
theorem seg_frame {fs : List Fr} (h : ∀ f ∈ fs, f.Ok) {i : Nat} (hi : i < fs.length) : seg? (flat fs) (0 + i * 37) 37 = some fs[i].l := by
 rw [flat_split hi]
 have := seg_mid (A := flat (fs.take i)) (B := flat (fs.drop (i + 1))) (o := 0) (take_flat_len h (Nat.le_of_lt hi)) (seg_all fs[i].l)
 rw [Fr.l_len (h _ (List.getElem_mem hi)), Nat.add_zero] at this
 rw [Nat.zero_add]
 exact this
def PtAtF (fs : List Fr) (tbl : List (Int × Int)) (hand : Int) (b : Nat) (H : HL) : Prop := ∃ bf bm es clock, H = [(b, .cells #[.slice (some ⟨bf, 0, none⟩) fs.length fs.length, .map (some bm), .int .i64 hand] 314 (0, 0)), (bf, .cells (flat fs).toArray 328 (0, 0)), (bm, .map es clock)] ∧
 MapIs .i64 (.int .i64) es.toList tbl
def PtAt (p : Pt) (b : Nat) (H : HL) : Prop := PtAtF p.fs p.tbl p.hand b H
def Pt.new (n : Nat) : Pt := ⟨List.replicate n Fr.zero, [], 0⟩
theorem Pt.new_ok {n : Nat} (h1 : 1 ≤ n) (h2 : n ≤ 64) : (Pt.new n).Ok := ⟨fun f hf => by simp [Pt.new] at hf; obtain ⟨_, rfl⟩ := hf; exact Fr.zero_ok, by simpa [Pt.new], by simpa [Pt.new]⟩
theorem rep_flat : ∀ n : Nat, repL n Fr.zero.l = flat (List.replicate n Fr.zero)
 | 0 => rfl
 | n + 1 => by rw [repL, rep_flat n]; rfl
theorem New_spec (n : Int) : Ctr Tryz.prog 143 [.int .i64 n] [] [] (fun v L' => (¬ (1 ≤ n ∧ n ≤ 64) ∧ v = .tuple #[.pointer none, .int .i64 1] ∧ L' = []) ∨
  ((1 ≤ n ∧ n ≤ 64) ∧ ∃ b H, v = .tuple #[.pointer (some ⟨b, 0, none⟩), .int .i64 0] ∧ L' = [H] ∧ PtAt (Pt.new n.toNat) b H)) := by
 refine Ctr.enter (n := 15) [.tmp 2, .tmp 3] [(0, _)] Tryz.func143 rfl rfl rfl (lb rfl) Tryz.call143 ⟨rfl, trivial⟩ ?_
 intro cx fin fin0
 refine aG ?_
 by_cases h1 : n < 1
 ·
  refine aSk ?_ (hw := by exact gd h1)
  refine aSk ?_ (hw := by exact gd h1)
  refine aPT ?_ (hb := by exact gd h1)
  refine aT ?_
  refine W.ret (fin _ _ (FinOk.mk' ([]) (.tmp rfl (.tmp rfl .nil)) (by repeat (first | exact Sel.nil | (apply Sel.cons; (repeat (first | exact Pick.here | apply Pick.there))))) rfl ?_))
  exact .inl ⟨by omega, rfl, rfl⟩
 ·
  refine aGo ?_ (hw := by exact gd h1)
  refine aGo ?_ (hw := by exact gd h1)
  refine aPF ?_ (hb := by exact gd h1)
  by_cases h2 : n > 64
  ·
   refine aT ?_ (hb := by exact gd h2)
   refine W.ret (fin _ _ (FinOk.mk' ([]) (.tmp rfl (.tmp rfl .nil)) (by repeat (first | exact Sel.nil | (apply Sel.cons; (repeat (first | exact Pick.here | apply Pick.there))))) rfl ?_))
   exact .inl ⟨by omega, rfl, rfl⟩
  ·
   refine aF ?_ (hb := by exact gd h2)
   obtain ⟨m, rfl⟩ : ∃ m : Nat, n = (m : Int) := ⟨n.toNat, by omega⟩
   refine aW (NewOf.mks (bytes := 56) (len := m) (cap := m) tab_ok rfl rfl rfl rfl rfl rfl rfl rfl rfl (Nat.le_refl _) (by omega) (by omega)) ?_
   intro _
   refine aG ?_
   rename_i bf
   refine aW (NewOf.map) ?_
   intro _
   refine aG ?_
   rename_i bm
   refine aBu (ps := [_, _]) ?_
   repeat (first | refine gw ?_ | refine gN fun _ => ?_ | refine gB fun _ => ?_ | fail)
   refine W.group [0, 1, 0] rfl rfl ?_
   refine W.ret (fin _ _ (FinOk.first 1 (.tmp rfl (.tmp rfl .nil)) rfl ?_))
   refine .inr ⟨⟨by omega, by omega⟩, _, _, rfl, rfl, bf, bm, #[], 0, ?_, rfl⟩
   have e : repL m [.bool false, .bool false, .bool false, .int .i64 0, .int .i64 0, .int .u8 0, .int .u8 0, .int .u8 0, .int .u8 0, .int .u8 0, .int .u8 0, .int .u8 0, .int .u8 0, .int .u8 0, .int .u8 0, .int .u8 0, .int .u8 0, .int .u8 0, .int .u8 0, .int .u8 0, .int .u8 0, .int .u8 0, .int .u8 0, .int .u8 0, .int .u8 0, .int .u8 0, .int .u8 0, .int .u8 0, .int .u8 0, .int .u8 0, .int .u8 0, .int .u8 0, .int .u8 0, .int .u8 0, .int .u8 0, .int .u8 0, .int .u8 0] = flat (List.replicate m Fr.zero) := rep_flat m
   simp [Pt.new, e]
end Go.Proofs.YtfpghdcjdnifcaaGreat
namespace Go.Proofs.YtfpghdcjdnifcaaGreat
open Go Go.Sl Go.IntWalk
set_option maxHeartbeats 2000000
set_option maxRecDepth 20000
def eqFl (f g : Fr) : Bool := (f.used == g.used) && ((f.dirty == g.dirty) && ((f.ref == g.ref) && ((f.pins == g.pins) && true)))
theorem flags_eq (f g : Fr) : EqD Tryz.prog 2 325 (.agg #[.bool f.used, .bool f.dirty, .bool f.ref, .int .i64 f.pins]) (.agg #[.bool g.used, .bool g.dirty, .bool g.ref, .int .i64 g.pins]) (eqFl f g) :=
 EqD.struct (P := Tryz.prog) (k := 1) (fs := Tryz.prog.fieldsOf 325) (by kernel_rfl) (by kernel_rfl)
  (FEqs.of_sig (sig := [(false, 4, 0), (false, 4, 1), (false, 4, 2), (false, 3, 3)]) (by kernel_rfl)
   ⟨_, _, rfl, rfl, FEqT.one ty_4.1 rfl rfl (EqD.bool Tryz.underlying4), _, _, rfl, rfl, FEqT.one ty_4.1 rfl rfl (EqD.bool Tryz.underlying4), _, _, rfl, rfl, FEqT.one ty_4.1 rfl rfl (EqD.bool Tryz.underlying4),
    _, _, rfl, rfl, FEqT.one ty_3.1 rfl rfl (EqD.int Tryz.underlying3), rfl⟩)
def eqFr (f g : Fr) : Bool := eqFl f g && ((f.page == g.page) && (decide (f.b = g.b) && true))
theorem eqFr_iff (f g : Fr) : eqFr f g = true ↔ f = g := by
 obtain ⟨a1, a2, a3, a4, a5, a6⟩ := f
 obtain ⟨b1, b2, b3, b4, b5, b6⟩ := g
 simp [eqFr, eqFl, and_assoc]
theorem seg_bytes {f : Fr} (h : f.Ok) : seg? f.l 5 32 = some (f.b.map (.int .u8)) := by
 have h1 : f.b.length = 32 := h
 have h2 := seg?_of f.l 5 32 (by rw [Fr.l_len h]; decide)
 rw [h2]
 simp [Fr.l, List.take_of_length_le, h1]
theorem frame_eq {f g : Fr} (hf : f.Ok) (hg : g.Ok) : EqD Tryz.prog 3 328 f.v g.v (eqFr f g) :=
 EqD.struct (P := Tryz.prog) (k := 2) (fs := Tryz.prog.fieldsOf 328) (by kernel_rfl) (by kernel_rfl)
  (FEqs.of_sig (sig := [(false, 325, 0), (false, 3, 4), (false, 326, 5)]) (by kernel_rfl)
   ⟨_, _, rfl, rfl, FEqT.agg ty_325.1 ty_325.2 rfl rfl (flags_eq f g), _, _, rfl, rfl, FEqT.one ty_3.1 rfl rfl ((EqD.int Tryz.underlying3).more (by decide)),
    _, _, rfl, rfl, FEqT.agg ty_326.1 ty_326.2 (seg_bytes hf) (seg_bytes hg) (EqD.arr Tryz.underlying326 (i := Tryz.t5) rfl (by kernel_rfl) ty_5.1 Tryz.underlying5 hf hg), rfl⟩)
theorem frame_guard : Tryz.prog.eqGuardType Tryz.prog.depth 328 = false := by kernel_rfl
def Pt.empty (p : Pt) : Bool := p.fs.all fun f => eqFr f Fr.zero
theorem load_frame {P : Program} {n : Nat} {R : HL} {cx : Cx} {ρ : Env} {L : List HL} {x : Operand} {ty bf i : Nat} {fs : List Fr} {T : Tab} (hT : TabOk P T) (hty : look? T.tys 328 = some (true, 37)) (hok : ∀ f ∈ fs, f.Ok) (hi : i < fs.length)
  (hx : ev? ρ x = some (.pointer (some ⟨bf, 0 + i * 37, none⟩))) (hb : At R L bf (.cells (flat fs).toArray 328 (0, 0))) : OpVal P n R cx (.load 328 x) ty ρ L fs[i].v :=
 OpVal.load hT hx hb (by unfold ldv?; rw [hty]; simp only; rw [seg_frame hok hi]; rfl)
theorem store_all {l : List Value} {f : Fr} (hf : f.Ok) (h : l.length = 37) : splice? l 0 f.l = some f.l := splice_all (by rw [Fr.l_len hf, h])
theorem zero_l : Fr.zero.l = [.bool false, .bool false, .bool false, .int .i64 0, .int .i64 0, .int .u8 0, .int .u8 0, .int .u8 0, .int .u8 0, .int .u8 0, .int .u8 0, .int .u8 0, .int .u8 0, .int .u8 0, .int .u8 0, .int .u8 0, .int .u8 0, .int .u8 0, .int .u8 0, .int .u8 0, .int .u8 0, .int .u8 0, .int .u8 0, .int .u8 0, .int .u8 0, .int .u8 0, .int .u8 0, .int .u8 0, .int .u8 0, .int .u8 0, .int .u8 0, .int .u8 0, .int .u8 0, .int .u8 0, .int .u8 0, .int .u8 0, .int .u8 0] := rfl
theorem build_zero {n : Nat} {R : HL} {cx : Cx} {ρ : Env} {L : List HL} {ty : Nat} : OpVal Tryz.prog n R cx (.build 328 #[]) ty ρ L Fr.zero.v := by
 have h := OpVal.build (n := n) (R := R) (cx := cx) (ρ := ρ) (L := L) (ty := ty) (ps := []) tab_ok (t := 328) rfl rfl rfl rfl trivial rfl
 unfold Fr.v
 rw [zero_l]
 exact h
theorem neFrame {n : Nat} {R : HL} {cx : Cx} {ρ : Env} {L : List HL} {ty t' : Nat} {x y : Operand} {f g : Fr} (hf : f.Ok) (hg : g.Ok) (hx : ev? ρ x = some f.v) (hy : ev? ρ y = some g.v) :
  OpVal Tryz.prog n R cx (.binOp .neq 328 x y t') ty ρ L (.bool (!eqFr f g)) := OpVal.neD (k := 3) hx hy (frame_eq hf hg) (by decide) frame_guard
theorem load_own {n : Nat} {R : HL} {cx : Cx} {ρ : Env} {L : List HL} {ty b : Nat} {x : Operand} {f : Fr} (hf : f.Ok) (hx : ev? ρ x = some (.pointer (some ⟨b, 0, none⟩))) (hb : At R L b (.cells f.l.toArray 328 (0, 0))) :
  OpVal Tryz.prog n R cx (.load 328 x) ty ρ L f.v :=
 OpVal.loadN ty_328.1 ty_328.2 hx hb (by rw [← Fr.l_len hf]; exact seg_all _)
theorem PEmpty_spec (p : Pt) (hpo : p.Ok) (b : Nat) (H : HL) (hp : PtAt p b H) : Ctr Tryz.prog 152 [.pointer (some ⟨b, 0, none⟩)] [] H (fun v L' => v = .bool p.empty ∧ L' = []) := by
 have hok := hpo.1
 have h64 := hpo.2.2
 obtain ⟨bf, bm, es, clock, rfl, hm⟩ := hp
 refine Ctr.enter (n := 18) [.tmp 2] [(0, _)] Tryz.func152 rfl rfl rfl (lb rfl) Tryz.call152 ⟨rfl, trivial⟩ ?_
 intro cx fin fin0
 refine aG ?_
 repeat refine gw ?_
 refine aLp (fun k ρ1 L1 => ∃ (j : Nat), j ≤ p.fs.length ∧ (p.fs.take j).all (fun f => eqFr f Fr.zero) = true ∧ k = p.fs.length - j ∧ ρ1 = [(10, .int .i64 (j : Int)), (9, .int .i64 (p.fs.length : Int)), (8, .slice (some ⟨bf, 0, none⟩) p.fs.length p.fs.length)] ∧ L1 = []) (o := ⟨0, Nat.zero_le _, rfl, rfl, rfl, rfl⟩) (h := ?_)
 rintro k ρ1 L1 ⟨j, hj, hall, rfl, rfl, rfl⟩
 refine aG ?_
 by_cases hlt : j < p.fs.length
 ·
  refine aT ?_ (hb := by simp; omega)
  have hfo := hok _ (List.getElem_mem hlt)
  have hnx : p.fs.take (j + 1) = p.fs.take j ++ [p.fs[j]] := by rw [List.take_add_one]; simp [hlt]
  have hmem : p.fs[j] ∈ p.fs := List.getElem_mem hlt
  have hld : ∀ (n : Nat) (cx : Cx) (ρ : Env) (L : List HL) (x : Operand) (ty : Nat) R, ev? ρ x = some (.pointer (some ⟨bf, 0 + j * 37, none⟩)) → At R L bf (.cells (flat p.fs).toArray 328 (0, 0)) → OpVal Tryz.prog n R cx (.load 328 x) ty ρ L p.fs[j].v := fun n cx ρ L x ty R hx hb => load_frame tab_ok rfl hok hlt hx hb
  generalize p.fs[j] = f at hfo hnx hmem hld
  refine aV (OpVal.ixSl tab_ok rfl rfl rfl rfl rfl hlt) ?_
  refine aV (hld _ _ _ _ _ _ _ rfl (at_ro 1 rfl)) ?_
  refine W.new tab_ok rfl rfl (by decide) ?_
  intro bt
  refine aG ?_
  refine W.store tab_ok rfl Upd.here rfl rfl rfl (Fr.l_len hfo) (Fr.l_one f) (store_all hfo rfl) (W.step tab_ok rfl rfl ?_)
  refine aV (load_own hfo rfl (at_own 0 rfl)) ?_
  refine aV (build_zero) ?_
  refine aV (neFrame hfo Fr.zero_ok rfl rfl) ?_
  by_cases he : eqFr f Fr.zero = true
  ·
   refine aF ?_ (hb := by exact gd he)
   refine aV (OpVal.add rfl rfl (i64_in _ (by omega))) ?_
   refine aR (o := ⟨p.fs.length - (j + 1), by omega, j + 1, by omega, by rw [hnx]; simp [hall, he], rfl, rfl, rfl⟩)
  ·
   refine aT ?_ (hb := by exact gd he)
   refine W.ret (fin _ _ (FinOk.mk' ([]) (.tmp rfl .nil) (by repeat (first | exact Sel.nil | (apply Sel.cons; (repeat (first | exact Pick.here | apply Pick.there))))) rfl ?_))
   refine ⟨?_, rfl⟩
   have : p.empty = false := by
    unfold Pt.empty
    rw [List.all_eq_false]
    exact ⟨f, hmem, by simpa using he⟩
   rw [this]
   rfl
 ·
  refine aF ?_ (hb := by simp; omega)
  have : j = p.fs.length := by omega
  subst this
  rw [List.take_length] at hall
  refine W.ret (fin _ _ (FinOk.mk' ([]) (.tmp rfl .nil) (by repeat (first | exact Sel.nil | (apply Sel.cons; (repeat (first | exact Pick.here | apply Pick.there))))) rfl ?_))
  refine ⟨?_, rfl⟩
  unfold Pt.empty
  rw [hall]
  rfl
def Pt.at_ (p : Pt) (i : Int) : Fr := if 0 ≤ i ∧ i < p.fs.length then p.fs.getD i.toNat Fr.zero else Fr.zero
theorem Pt.at_nat {p : Pt} {i : Nat} (hi : i < p.fs.length) : p.at_ (i : Int) = p.fs[i] := by
 unfold Pt.at_
 rw [if_pos (by omega), Int.toNat_natCast, List.getD_eq_getElem?_getD, List.getElem?_eq_getElem hi, Option.getD_some]
theorem Pt.at_ok {p : Pt} (h : p.Ok) (i : Int) : (p.at_ i).Ok := by
 unfold Pt.at_
 split
 ·
  rename_i hi
  rw [List.getD_eq_getElem?_getD, List.getElem?_eq_getElem (by omega), Option.getD_some]
  exact h.1 _ (List.getElem_mem _)
 · exact Fr.zero_ok
theorem pin_spec (p : Pt) (b : Nat) (H : HL) (hp : PtAt p b H) (i : Int) : Ctr Tryz.prog 269 [.pointer (some ⟨b, 0, none⟩), .int .i64 i] [] H (fun v L' => v = .bool (decide (0 ≤ i ∧ i < p.fs.length)) ∧ L' = []) := by
 obtain ⟨bf, bm, es, clock, rfl, hm⟩ := hp
 refine Ctr.enter (n := 16) [.tmp 4] [(0, _), (1, _)] Tryz.func269 rfl rfl rfl (lb rfl) Tryz.call269 ⟨rfl, rfl, trivial⟩ ?_
 intro cx fin fin0
 refine aG ?_
 by_cases h : 0 ≤ i
 ·
  repeat (first | refine aGo ?_ (hw := by exact gd h) | fail)
  repeat refine gw ?_
  repeat (first | refine aGo ?_ (hw := by exact gd h) | fail)
  repeat refine gw ?_
  refine aPT ?_ (hb := by exact gd h)
  refine W.ret (fin _ _ (FinOk.mk' ([]) (.tmp rfl .nil) (by repeat (first | exact Sel.nil | (apply Sel.cons; (repeat (first | exact Pick.here | apply Pick.there))))) rfl ?_))
  exact ⟨by simp [pack, h], rfl⟩
 ·
  repeat (first | refine aSk ?_ (hw := by exact gd h) | fail)
  refine aPF ?_ (hb := by exact gd h)
  refine W.ret (fin _ _ (FinOk.mk' ([]) (.tmp rfl .nil) (by repeat (first | exact Sel.nil | (apply Sel.cons; (repeat (first | exact Pick.here | apply Pick.there))))) rfl ?_))
  exact ⟨by simp [pack, h], rfl⟩
theorem PAt_spec (p : Pt) (hpo : p.Ok) (b : Nat) (H : HL) (hp : PtAt p b H) (i : Int) : Ctr Tryz.prog 235 [.pointer (some ⟨b, 0, none⟩), .int .i64 i] [] H (fun v L' => v = (p.at_ i).v ∧ L' = []) := by
 have hI := pin_spec p b H hp i
 obtain ⟨bf, bm, es, clock, rfl, hm⟩ := hp
 refine Ctr.enter (n := 17) [.cell 4 328] [(0, _), (1, _)] Tryz.func235 rfl rfl rfl (lb rfl) Tryz.call235 ⟨rfl, rfl, trivial⟩ ?_
 intro cx fin fin0
 refine aG ?_
 refine aW (NewOf.new tab_ok rfl rfl) ?_
 intro _
 refine aG ?_
 refine aC (o := hI) (h := ?_)
 rintro _ _ ⟨rfl, rfl⟩
 refine aG ?_
 by_cases h : 0 ≤ i ∧ i < p.fs.length
 ·
  refine aF ?_ (hb := by exact gd h)
  obtain ⟨j, rfl⟩ : ∃ j : Nat, i = (j : Int) := ⟨i.toNat, by omega⟩
  have hj : j < p.fs.length := by omega
  have hfo := hpo.1 _ (List.getElem_mem hj)
  repeat refine gw ?_
  refine aV (OpVal.ixSl tab_ok rfl rfl rfl rfl rfl hj) ?_
  refine aV (load_frame tab_ok rfl hpo.1 hj rfl (at_ro 1 rfl)) ?_
  refine W.store tab_ok rfl Upd.here rfl rfl rfl (Fr.l_len hfo) (Fr.l_one _) (store_all hfo rfl) (W.step tab_ok rfl rfl ?_)
  refine W.ret (fin _ _ (FinOk.first 0 (.cellN ty_328.1 ty_328.2 rfl (at_own 0 rfl) (by rw [← Fr.l_len hfo]; exact seg_all _) .nil) rfl ?_))
  exact ⟨by rw [Pt.at_nat hj]; rfl, rfl⟩
 ·
  refine aT ?_ (hb := by exact gd h)
  refine aV (build_zero) ?_
  refine W.store tab_ok rfl Upd.here rfl rfl rfl (Fr.l_len Fr.zero_ok) (Fr.l_one _) (store_all Fr.zero_ok rfl) (W.step tab_ok rfl rfl ?_)
  refine W.ret (fin _ _ (FinOk.first 0 (.cellN ty_328.1 ty_328.2 rfl (at_own 0 rfl) (by rw [← Fr.l_len Fr.zero_ok]; exact seg_all _) .nil) rfl ?_))
  exact ⟨by unfold Pt.at_; rw [if_neg h]; rfl, rfl⟩
end Go.Proofs.YtfpghdcjdnifcaaGreat
namespace Go.Proofs.YtfpghdcjdnifcaaGreat
open Go Go.Sl Go.IntWalk
set_option maxHeartbeats 2000000
set_option maxRecDepth 20000
def Fr.load (page : Int) (bs : List Int) : Fr := ⟨true, false, false, 0, page, bs⟩
theorem lay_frame (page : Int) {bs : List Int} (h : bs.length = 32) :
  lay? Fr.zero.l [(0, [.bool true, .bool false, .bool false, .int .i64 0]), (4, [.int .i64 page]), (5, bs.map (.int .u8))] = some (Fr.load page bs).l := by
 have e : lay? Fr.zero.l [(0, [.bool true, .bool false, .bool false, .int .i64 0]), (4, [.int .i64 page]), (5, bs.map (.int .u8))] =
   (match splice? (.bool true :: .bool false :: .bool false :: .int .i64 0 :: .int .i64 page :: (List.replicate 32 (0 : Int)).map (.int .u8)) 5 (bs.map (.int .u8)) with | some l' => some l' | none => none) := rfl
 rw [e, splice?_of _ _ _ (by simp [h])]
 simp [Fr.l, Fr.load, h]
theorem FLoad_spec (f : Fr) (hf : f.Ok) (A B : List Value) (bf off : Nat) (hA : A.length = off) (page : Int) (bs : List Int) (ab : Option Addr) (cb : Nat) (rb : HL) (hrb : RoSl 1 (u8s bs) ab bs.length rb) :
  Ctr Tryz.prog 305 [.pointer (some ⟨bf, off, none⟩), .int .i64 page, .slice ab bs.length cb] [[(bf, .cells (A ++ f.l ++ B).toArray 328 (0, 0))]] rb
   (fun v L' => (bs.length ≠ 32 ∧ v = .int .i64 2 ∧ L' = [[(bf, .cells (A ++ f.l ++ B).toArray 328 (0, 0))]]) ∨
    (bs.length = 32 ∧ v = .int .i64 0 ∧ L' = [[(bf, .cells (A ++ (Fr.load page bs).l ++ B).toArray 328 (0, 0))]])) := by
 refine Ctr.enter (n := 18) [.tmp 6] [(0, _), (1, _), (2, _)] Tryz.func305 rfl rfl rfl (lb rfl) Tryz.call305 ⟨rfl, rfl, rfl, trivial⟩ ?_
 intro cx fin fin0
 refine aG ?_
 by_cases h : bs.length = 32
 ·
  refine aF ?_ (hb := by exact gd h)
  rcases hrb.2 with ⟨h0, _⟩ | ⟨bx, ox, lx, ex, frx, rfl, rfl, hlx, hcx⟩
  · omega
  have hld : seg? lx ox 32 = some (bs.map (.int .u8)) := by
   rw [seg?_of _ _ _ (by omega), ← u8s_map, ← hcx, h]
  have hnew : (Fr.load page bs).Ok := h
  refine aV (OpVal.build (ps := [_]) tab_ok rfl rfl rfl rfl (by repeat (first | exact trivial | refine ⟨⟨_, _, _, rfl, rfl, rfl⟩, ?_⟩)) rfl) ?_
  refine aV (OpVal.slAr tab_ok rfl rfl (by omega)) ?_
  refine aV (OpVal.loadN ty_326.1 ty_326.2 rfl (at_ro 0 rfl) hld) ?_
  refine aV (OpVal.build (ps := [_, _, _]) (zs := Fr.zero.l) (q := [(0, [.bool true, .bool false, .bool false, .int .i64 0]), (4, [.int .i64 page]), (5, bs.map (.int .u8))]) tab_ok rfl rfl rfl rfl ⟨⟨_, _, _, rfl, rfl, rfl⟩, ⟨_, _, _, rfl, rfl, rfl⟩, ⟨_, bs.map (.int .u8), _, rfl, rfl, by simp [h]; rfl⟩, trivial⟩ (lay_frame page h)) ?_
  refine W.store tab_ok rfl Upd.here rfl rfl rfl (Fr.l_len hnew) (Fr.l_one _) (splice_mid (o := 0) hA (store_all hnew (Fr.l_len hf))) (W.step tab_ok rfl rfl ?_)
  refine W.ret (fin _ _ (FinOk.first 1 (.tmp rfl .nil) rfl ?_))
  exact .inr ⟨h, rfl, rfl⟩
 ·
  refine aT ?_ (hb := by simp; omega)
  refine W.ret (fin _ _ (FinOk.first 1 (.tmp rfl .nil) rfl ?_))
  exact .inl ⟨h, rfl, rfl⟩
theorem Find_spec (p : Pt) (b : Nat) (H : HL) (hp : PtAt p b H) (page : Int) : Ctr Tryz.prog 234 [.pointer (some ⟨b, 0, none⟩), .int .i64 page] [] H
  (fun v L' => v = .tuple #[.int .i64 ((mget p.tbl page).getD 0), .bool (mget p.tbl page).isSome] ∧ L' = []) := by
 obtain ⟨bf, bm, es, clock, rfl, hm⟩ := hp
 refine Ctr.enter (n := 19) [.tmp 4, .tmp 5] [(0, _), (1, _)] Tryz.func234 rfl rfl rfl (lb rfl) Tryz.call234 ⟨rfl, rfl, trivial⟩ ?_
 intro cx fin fin0
 refine aG ?_
 repeat refine gw ?_
 refine aV (OpVal.lookup2 Tryz.underlying312 Tryz.underlying3 ze_3 rfl rfl (at_ro 2 rfl) hm) ?_
 refine W.ret (fin _ _ (FinOk.mk' ([]) (.tmp rfl (.tmp rfl .nil)) (by repeat (first | exact Sel.nil | (apply Sel.cons; (repeat (first | exact Pick.here | apply Pick.there))))) rfl ?_))
 refine ⟨?_, rfl⟩
 cases mget p.tbl page <;> rfl
theorem frame_get {fs : List Fr} (h : ∀ f ∈ fs, f.Ok) {i : Nat} (hi : i < fs.length) {o : Nat} (ho : o < 37) : (flat fs)[0 + i * 37 + o]? = (fs[i].l)[o]? := by
 rw [flat_split hi]
 exact get_mid (by rw [take_flat_len h (Nat.le_of_lt hi)]; omega) (by rw [Fr.l_len (h _ (List.getElem_mem hi))]; exact ho)
def Pt.forget (p : Pt) (i : Nat) : Pt := { p with tbl := if (p.at_ i).used then mdel p.tbl (p.at_ i).page else p.tbl }
theorem forget_spec (p : Pt) (hpo : p.Ok) (b : Nat) (H : HL) (hp : PtAt p b H) (i : Nat) (hi : i < p.fs.length) : Ctr Tryz.prog 304 [.pointer (some ⟨b, 0, none⟩), .int .i64 (i : Int)] [H] []
  (fun _ L' => ∃ H', L' = [H'] ∧ PtAt (p.forget i) b H') := by
 obtain ⟨bf, bm, es, clock, rfl, hm⟩ := hp
 have hat := Pt.at_nat hi
 have hu : (flat p.fs)[0 + i * 37]? = some (.bool p.fs[i].used) := frame_get hpo.1 hi (o := 0) (by decide)
 have hg : (flat p.fs)[0 + i * 37 + 4]? = some (.int .i64 p.fs[i].page) := frame_get hpo.1 hi (o := 4) (by decide)
 have hft : (p.forget i).tbl = if p.fs[i].used then mdel p.tbl p.fs[i].page else p.tbl := by unfold Pt.forget; rw [hat]
 generalize p.fs[i] = f at hu hg hft
 refine Ctr.enter (n := 25) [] [(0, _), (1, _)] Tryz.func304 rfl rfl rfl (lb rfl) Tryz.call304 ⟨rfl, rfl, trivial⟩ ?_
 intro cx fin fin0
 refine aG ?_
 refine W.split 0 rfl ?_
 refine aG ?_
 repeat refine gw ?_
 refine aV (OpVal.ixSl tab_ok rfl rfl rfl rfl rfl hi) ?_
 refine aV (OpVal.load tab_ok rfl (at_own 1 rfl) hu) ?_
 by_cases hus : f.used = true
 ·
  refine aT ?_ (hb := by exact hus)
  refine W.drawTail 12 follows (by decide +kernel) (zG ?_)
  repeat (first | refine zL ?_ | fail)
  refine zV (OpVal.ixSl tab_ok rfl rfl rfl rfl rfl hi) ?_
  refine zV (OpVal.load tab_ok rfl (at_own 1 rfl) hg) ?_
  refine WZ.nil (aG ?_)
  refine aPu (mapDel (f := Value.int .i64) (m := p.tbl) (H := [(bm, .map es clock)]) Tryz.underlying312 Tryz.underlying3 rfl rfl (by intro p hp; simp [hp]) ⟨es, clock, rfl, hm⟩) ?_
  rintro _ _ ⟨_, rfl, es2, clock2, rfl, hm2⟩
  refine aG ?_
  refine W.group [1, 1, 0] rfl rfl ?_
  refine fin0 _ _ (FinOk.first 1 .nil rfl ?_)
  refine ⟨_, rfl, bf, bm, es2, clock2, rfl, ?_⟩
  rw [hft, if_pos hus]
  exact hm2
 ·
  refine aF ?_ (hb := by simpa using hus)
  refine W.group [0, 0, 0] rfl rfl ?_
  refine fin0 _ _ (FinOk.first 1 .nil rfl ?_)
  refine ⟨_, rfl, bf, bm, es, clock, rfl, ?_⟩
  rw [hft, if_neg hus]
  exact hm
def Pt.mayLoad (p : Pt) (i page : Int) : Bool := decide (0 ≤ i ∧ i < p.fs.length) && (match mget p.tbl page with | some own => decide (own = i) | none => true)
def Pt.load (p : Pt) (i page : Int) (bs : List Int) : Pt × Int :=
 if p.mayLoad i page = true then (if bs.length = 32 then (⟨p.fs.set i.toNat (Fr.load page bs), mput (p.forget i.toNat).tbl page i, p.hand⟩, 0) else (p, 2)) else (p, 1)
theorem Load_spec (p : Pt) (hpo : p.Ok) (b : Nat) (H : HL) (hp : PtAt p b H) (i page : Int) (bs : List Int) (ab : Option Addr) (cb : Nat) (rb : HL) (hrb : RoSl 1 (u8s bs) ab bs.length rb) :
  Ctr Tryz.prog 267 [.pointer (some ⟨b, 0, none⟩), .int .i64 i, .int .i64 page, .slice ab bs.length cb] [H] rb
   (fun v L' => v = .int .i64 (p.load i page bs).2 ∧ ∃ H', L' = [H'] ∧ PtAt (p.load i page bs).1 b H') := by
 have hF := Find_spec p b H hp page
 have hI := pin_spec p b H hp i
 by_cases hin : 0 ≤ i ∧ i < p.fs.length
 ·
  by_cases hmay : p.mayLoad i page = true
  ·
   obtain ⟨x, has, hxi, hF2⟩ : ∃ (x : Int) (has : Bool), (has = true → x = i) ∧ Ctr Tryz.prog 234 [.pointer (some ⟨b, 0, none⟩), .int .i64 page] [] H (fun v L' => v = .tuple #[.int .i64 x, .bool has] ∧ L' = []) := by
    refine ⟨_, _, ?_, hF⟩
    intro hs
    unfold Pt.mayLoad at hmay
    cases hg : mget p.tbl page with
    | none => rw [hg] at hs; cases hs
    | some own => rw [hg] at hmay; simp at hmay; simp [hmay.2]
   obtain ⟨j, rfl⟩ : ∃ j : Nat, i = (j : Int) := ⟨i.toNat, by omega⟩
   have hj : j < p.fs.length := by omega
   have hforget := forget_spec p hpo b H hp j hj
   have hsp := flat_split hj
   have hset := flat_set hj (Fr.load page bs)
   have hfo := hpo.1 _ (List.getElem_mem hj)
   have hA : (flat (p.fs.take j)).length = 0 + j * 37 := by rw [take_flat_len hpo.1 (Nat.le_of_lt hj)]; omega
   generalize p.fs[j] = f at hsp hfo
   have hfl := FLoad_spec f hfo (flat (p.fs.take j)) (flat (p.fs.drop (j + 1)))
   refine Ctr.enter (n := 50) [.tmp 8] [(0, _), (1, _), (2, _), (3, _)] Tryz.func267 rfl rfl rfl (lb rfl) Tryz.call267 ⟨rfl, rfl, rfl, rfl, trivial⟩ ?_
   intro cx fin fin0
   refine aG ?_
   refine aC (o := hF2) (h := ?_)
   rintro _ _ ⟨rfl, rfl⟩
   refine aG ?_
   refine aC (o := hI) (h := ?_)
   rintro _ _ ⟨rfl, rfl⟩
   refine aG ?_
   have go : ∀ (ρ : Env), True := fun _ => trivial
   cases has
   all_goals
    try (have hx := hxi rfl; subst hx)
    repeat (first | (refine W.isGuard ?_; first | refine aGo ?_ (hw := by first | rfl | exact gd hin | (simp; omega)) | refine aSk ?_ (hw := by first | rfl | exact gd hin | (simp; omega)) | refine aUn ?_) | (refine W.isPick ?_; first | refine aPT ?_ (hb := by first | rfl | exact gd hin | (simp; omega)) | refine aPF ?_ (hb := by first | rfl | exact gd hin | (simp; omega))) | (refine W.isBin ?_; first | refine aV (OpVal.neBool tab_ok rfl rfl rfl) ?_ | refine aV (OpVal.eqBool tab_ok rfl rfl rfl) ?_ | refine aV (OpVal.eqNil tab_ok rfl rfl rfl) ?_ | refine aV (OpVal.neNil tab_ok rfl rfl rfl) ?_) | fail)
    refine aF ?_ (hb := by first | rfl | exact gd hin | (simp; omega))
    by_cases hlen : bs.length = 32
    ·
     have hl : p.load (j : Int) page bs = (⟨p.fs.set j (Fr.load page bs), mput (p.forget j).tbl page j, p.hand⟩, 0) := by
      unfold Pt.load
      rw [if_pos hmay, if_pos hlen, Int.toNat_natCast]
     refine aF ?_ (hb := by exact gd hlen)
     refine aC (o := hforget) (h := ?_)
     rintro _ _ ⟨H2, rfl, hp2⟩
     refine aG ?_
     have hp3 : PtAtF p.fs (p.forget j).tbl p.hand b H2 := hp2
     obtain ⟨bf, bm, es, clock, rfl, hm⟩ := hp3
     refine W.split 0 rfl ?_
     refine aG ?_
     repeat refine gw ?_
     refine aSkp (mapPut (f := Value.int .i64) (m := (p.forget j).tbl) (v := (j : Int)) (H := [(bm, .map es clock)]) Tryz.underlying312 Tryz.underlying3 rfl rfl rfl (by intro p hp; simp [hp]) ⟨es, clock, rfl, hm⟩) ?_
     rintro _ ⟨_, rfl, es2, clock2, rfl, hm2⟩
     refine aG ?_
     repeat refine gw ?_
     refine aV (OpVal.ixSl tab_ok rfl rfl rfl rfl rfl hj) ?_
     rw [hsp]
     refine aC (o := hfl bf (0 + j * 37) hA page bs ab cb rb hrb) (h := ?_)
     rintro _ _ (⟨hno, rfl, rfl⟩ | ⟨_, rfl, rfl⟩)
     · exact absurd hlen hno
     ·
      rw [← hset]
      refine aG ?_
      refine W.group [2, 0, 0] rfl rfl ?_
      refine W.ret (fin _ _ (FinOk.first 1 (.tmp rfl .nil) rfl ?_))
      rw [hl]
      have hsl : (p.fs.set j (Fr.load page bs)).length = p.fs.length := by simp
      refine ⟨rfl, _, rfl, bf, bm, es2, clock2, ?_, hm2⟩
      rw [hsl]
    ·
     have hl : p.load (j : Int) page bs = (p, 2) := by
      unfold Pt.load
      rw [if_pos hmay, if_neg hlen]
     refine aT ?_ (hb := by simp; omega)
     refine W.ret (fin _ _ (FinOk.first 1 (.tmp rfl .nil) rfl ?_))
     rw [hl]
     exact ⟨rfl, _, rfl, hp⟩
  ·
   obtain ⟨own, hg, hne⟩ : ∃ own, mget p.tbl page = some own ∧ own ≠ i := by
    unfold Pt.mayLoad at hmay
    cases hg : mget p.tbl page with
    | none => rw [hg] at hmay; simp [hin] at hmay
    | some own => rw [hg] at hmay; exact ⟨own, rfl, fun h => hmay (by simp [hin, h])⟩
   rw [hg] at hF
   have : p.load i page bs = (p, 1) := by unfold Pt.load; rw [if_neg hmay]
   rw [this]
   refine Ctr.enter (n := 50) [.tmp 8] [(0, _), (1, _), (2, _), (3, _)] Tryz.func267 rfl rfl rfl (lb rfl) Tryz.call267 ⟨rfl, rfl, rfl, rfl, trivial⟩ ?_
   intro cx fin fin0
   refine aG ?_
   refine aC (o := hF) (h := ?_)
   rintro _ _ ⟨rfl, rfl⟩
   refine aG ?_
   refine aC (o := hI) (h := ?_)
   rintro _ _ ⟨rfl, rfl⟩
   refine aG ?_
   repeat (first | (refine W.isGuard ?_; first | refine aGo ?_ (hw := by first | rfl | exact gd hin | exact gd hne | (simp; omega)) | refine aSk ?_ (hw := by first | rfl | exact gd hin | exact gd hne | (simp; omega)) | refine aUn ?_) | (refine W.isPick ?_; first | refine aPT ?_ (hb := by first | rfl | exact gd hin | exact gd hne | (simp; omega)) | refine aPF ?_ (hb := by first | rfl | exact gd hin | exact gd hne | (simp; omega))) | (refine W.isBin ?_; first | refine aV (OpVal.neBool tab_ok rfl rfl rfl) ?_ | refine aV (OpVal.eqBool tab_ok rfl rfl rfl) ?_ | refine aV (OpVal.eqNil tab_ok rfl rfl rfl) ?_ | refine aV (OpVal.neNil tab_ok rfl rfl rfl) ?_) | fail)
   refine aT ?_ (hb := by first | rfl | exact gd hin | exact gd hne | (simp; omega))
   refine W.ret (fin _ _ (FinOk.first 1 (.tmp rfl .nil) rfl ?_))
   exact ⟨rfl, _, rfl, hp⟩
 ·
  have : p.load i page bs = (p, 1) := by unfold Pt.load Pt.mayLoad; rw [if_neg (by simp [hin])]
  rw [this]
  refine Ctr.enter (n := 50) [.tmp 8] [(0, _), (1, _), (2, _), (3, _)] Tryz.func267 rfl rfl rfl (lb rfl) Tryz.call267 ⟨rfl, rfl, rfl, rfl, trivial⟩ ?_
  intro cx fin fin0
  refine aG ?_
  refine aC (o := hF) (h := ?_)
  rintro _ _ ⟨rfl, rfl⟩
  refine aG ?_
  refine aC (o := hI) (h := ?_)
  rintro _ _ ⟨rfl, rfl⟩
  refine aG ?_
  repeat (first | (refine W.isGuard ?_; first | refine aGo ?_ (hw := by first | rfl | exact gd hin | (simp; omega)) | refine aSk ?_ (hw := by first | rfl | exact gd hin | (simp; omega)) | refine aUn ?_) | (refine W.isPick ?_; first | refine aPT ?_ (hb := by first | rfl | exact gd hin | (simp; omega)) | refine aPF ?_ (hb := by first | rfl | exact gd hin | (simp; omega))) | (refine W.isBin ?_; first | refine aV (OpVal.neBool tab_ok rfl rfl rfl) ?_ | refine aV (OpVal.eqBool tab_ok rfl rfl rfl) ?_ | refine aV (OpVal.eqNil tab_ok rfl rfl rfl) ?_ | refine aV (OpVal.neNil tab_ok rfl rfl rfl) ?_) | fail)
  refine aT ?_ (hb := by first | rfl | exact gd hin | (simp; omega))
  refine W.ret (fin _ _ (FinOk.first 1 (.tmp rfl .nil) rfl ?_))
  exact ⟨rfl, _, rfl, hp⟩
end Go.Proofs.YtfpghdcjdnifcaaGreat
namespace Go.Proofs.YtfpghdcjdnifcaaGreat
open Go Go.Sl Go.IntWalk
set_option maxHeartbeats 2000000
set_option maxRecDepth 20000
structure Fl where
 used : Bool
 dirty : Bool
 ref : Bool
 pins : Int
def Fl.l (f : Fl) : List Value := [.bool f.used, .bool f.dirty, .bool f.ref, .int .i64 f.pins]
def Fl.v (f : Fl) : Value := .agg #[.bool f.used, .bool f.dirty, .bool f.ref, .int .i64 f.pins]
def flagsOf (fs : List Fl) : List Value := fs.flatMap Fl.l
theorem flagsOf_len (fs : List Fl) : (flagsOf fs).length = fs.length * 4 := flatMap_len Fl.l 4 (fun _ => rfl) fs
theorem flags_split {fs : List Fl} {i : Nat} (hi : i < fs.length) : flagsOf fs = flagsOf (fs.take i) ++ fs[i].l ++ flagsOf (fs.drop (i + 1)) := by
 have : fs = fs.take i ++ (fs[i] :: fs.drop (i + 1)) := by simp
 conv => lhs; rw [this]
 simp only [flagsOf, List.flatMap_append, List.flatMap_cons, List.append_assoc]
theorem flags_take_len {fs : List Fl} {i : Nat} (hi : i ≤ fs.length) : (flagsOf (fs.take i)).length = i * 4 := by
 rw [flagsOf_len, List.length_take]
 congr 1
 omega
theorem flags_set {fs : List Fl} {i : Nat} (hi : i < fs.length) (g : Fl) : flagsOf (fs.set i g) = flagsOf (fs.take i) ++ g.l ++ flagsOf (fs.drop (i + 1)) := by
 rw [flags_split (by simpa using hi)]
 rw [List.take_set_of_le (Nat.le_refl _), List.drop_set_of_lt (by omega)]
 simp
theorem Free_spec (f : Fl) (A B : List Value) (bf off : Nat) (e : TypeId) (hA : A.length = off) :
  Ctr Tryz.prog 332 [.pointer (some ⟨bf, off, none⟩)] [] [(bf, .cells (A ++ f.l ++ B).toArray e (0, 0))] (fun v L' => v = .bool (decide (f.pins = 0)) ∧ L' = []) := by
 have hl : (A ++ f.l ++ B)[off + 3]? = some (.int .i64 f.pins) := get_mid hA (M := f.l) (by simp [Fl.l])
 refine Ctr.enter (n := 8) [.tmp 2] [(0, _)] Tryz.func332 rfl rfl rfl (lb rfl) Tryz.call332 ⟨rfl, trivial⟩ ?_
 intro cx fin fin0
 refine aG ?_
 refine aV (OpVal.load tab_ok rfl (at_ro 0 rfl) hl) ?_
 refine W.ret (fin _ _ (FinOk.mk' ([]) (.tmp rfl .nil) (by repeat (first | exact Sel.nil | (apply Sel.cons; (repeat (first | exact Pick.here | apply Pick.there))))) rfl ?_))
 exact ⟨rfl, rfl⟩
def Fl.goes (f : Fl) : Fl × Bool := if f.used = false then (f, true) else if f.pins = 0 then ({ f with ref := false }, !f.ref) else (f, false)
theorem goes_spec (fs : List Fl) (i : Nat) (hi : i < fs.length) (rest : List Value) (b8 bo cap : Nat) :
  Ctr Tryz.prog 369 [.int .i64 (i : Int), .pointer (some ⟨b8, 0, none⟩)] [[(bo, .cells (flagsOf fs ++ rest).toArray 325 (0, 0))]] [(b8, .cells #[.slice (some ⟨bo, 0, none⟩) fs.length cap] 454 (0, 0))]
   (fun v L' => v = .bool (fs[i].goes).2 ∧ L' = [[(bo, .cells (flagsOf (fs.set i (fs[i].goes).1) ++ rest).toArray 325 (0, 0))]]) := by
 have hsp := flags_split hi
 have hst := flags_set hi fs[i].goes.1
 have hA : (flagsOf (fs.take i)).length = 0 + i * 4 := by rw [flags_take_len (Nat.le_of_lt hi)]; omega
 have hself : fs.set i fs[i] = fs := by simp
 generalize fs[i] = f at hsp hst hself
 have eL : flagsOf fs ++ rest = flagsOf (fs.take i) ++ f.l ++ (flagsOf (fs.drop (i + 1)) ++ rest) := by rw [hsp]; simp
 have eR : flagsOf (fs.set i f.goes.1) ++ rest = flagsOf (fs.take i) ++ f.goes.1.l ++ (flagsOf (fs.drop (i + 1)) ++ rest) := by rw [hst]; simp
 rw [eL, eR]
 generalize flagsOf (fs.take i) = A at hA
 generalize flagsOf (fs.drop (i + 1)) ++ rest = B
 have hu : (A ++ f.l ++ B)[0 + i * 4]? = some (.bool f.used) := get_mid hA (M := f.l) (o := 0) (by simp [Fl.l])
 have hr : (A ++ f.l ++ B)[0 + i * 4 + 2]? = some (.bool f.ref) := get_mid hA (M := f.l) (o := 2) (by simp [Fl.l])
 have hw : splice? (A ++ f.l ++ B) (0 + i * 4 + 2) [.bool false] = some (A ++ (Fl.mk f.used f.dirty false f.pins).l ++ B) := splice_mid hA (M := f.l) (o := 2) rfl
 have hfree := Free_spec f A B bo (0 + i * 4) 325 hA
 refine Ctr.enter (n := 28) [.tmp 3] [(0, _), (1, _)] Tryz.func369 rfl rfl rfl (lb rfl) Tryz.call369 ⟨rfl, rfl, trivial⟩ ?_
 intro cx fin fin0
 refine aG ?_
 repeat refine gw ?_
 refine aV (OpVal.ixSl tab_ok rfl rfl rfl rfl rfl hi) ?_
 refine aV (OpVal.load tab_ok rfl (at_own 0 rfl) hu) ?_
 by_cases h1 : f.used = false
 ·
  refine aT ?_ (hb := by exact gd h1)
  refine W.ret (fin _ _ (FinOk.first 1 (.tmp rfl .nil) rfl ?_))
  have : f.goes = (f, true) := by unfold Fl.goes; rw [if_pos h1]
  rw [this]
  exact ⟨rfl, rfl⟩
 ·
  refine aF ?_ (hb := by simpa using h1)
  refine aC (o := hfree) (h := ?_)
  rintro _ _ ⟨rfl, rfl⟩
  refine aG ?_
  by_cases h2 : f.pins = 0
  ·
   refine aF ?_ (hb := by exact gd h2)
   refine aV (OpVal.load tab_ok rfl (at_own 0 rfl) hr) ?_
   refine W.store tab_ok rfl Upd.here rfl rfl rfl rfl rfl hw (W.step tab_ok rfl rfl ?_)
   refine W.ret (fin _ _ (FinOk.first 1 (.tmp rfl .nil) rfl ?_))
   have : f.goes = (Fl.mk f.used f.dirty false f.pins, !f.ref) := by unfold Fl.goes; rw [if_neg h1, if_pos h2]
   rw [this]
   exact ⟨rfl, rfl⟩
  ·
   refine aT ?_ (hb := by exact gd h2)
   refine W.ret (fin _ _ (FinOk.first 1 (.tmp rfl .nil) rfl ?_))
   have : f.goes = (f, false) := by unfold Fl.goes; rw [if_neg h1, if_neg h2]
   rw [this]
   exact ⟨rfl, rfl⟩
end Go.Proofs.YtfpghdcjdnifcaaGreat
namespace Go.Proofs.YtfpghdcjdnifcaaGreat
open Go Go.Sl Go.IntWalk
set_option maxHeartbeats 2000000
set_option maxRecDepth 20000
theorem flags_one (fs : List Fl) : allOne (flagsOf fs) = true := by
 induction fs with
 | nil => rfl
 | cons f fs ih => exact ih
theorem Clone_spec (fs : List Fl) (h1 : 1 ≤ fs.length) (h2 : fs.length ≤ 64) (a : Option Addr) (cap : Nat) (ro : HL) (hro : RoSl 4 (flagsOf fs) a fs.length ro) :
  Ctr Tryz.prog 368 [.slice a fs.length cap] [] ro (fun v L' => ∃ a' cap' H, v = .slice a' fs.length cap' ∧ L' = [H] ∧ Own 4 325 (flagsOf fs) a' fs.length cap' H) := by
 rcases hro.2 with ⟨h0, _⟩ | ⟨bx, ox, lx, ex, frx, rfl, rfl, hlx, hcx⟩
 · omega
 have hn : seg? lx ox (fs.length * 4) = some (flagsOf fs) := by rw [seg?_of _ _ _ hlx, hcx]
 refine Ctr.enter (n := 8) [.tmp 2] [(0, _)] Tryz.func368 rfl rfl rfl (lb rfl) Tryz.call368 ⟨rfl, trivial⟩ ?_
 intro cx fin fin0
 refine aG ?_
 refine aV (OpVal.eqNilSl tab_ok rfl rfl rfl) ?_
 refine aF ?_ (hb := by rfl)
 refine aSl (ps := []) ?_
 intro bt
 refine aG ?_
 refine aAp (Own.exact (cs := []) bt rfl) ?_ (hn := hn) (h1 := (flags_one fs))
 rintro _ _ ⟨a', cap', H', rfl, rfl, ho⟩
 refine aG ?_
 refine W.ret (fin _ _ (FinOk.first 1 (.tmp rfl .nil) rfl ?_))
 rw [Nat.zero_add] at ho
 refine ⟨a', cap', H', ?_, rfl, ho⟩
 rw [Nat.zero_add]
 rfl
def Fl.none : Fl := ⟨false, false, false, 0⟩
def turnFrom (hand : Nat) : Nat → Nat → List Fl → List Fl × Option (Nat × Nat)
 | 0, _, fs => (fs, Option.none)
 | m + 1, k, fs => if (fs.getD ((hand + k) % fs.length) Fl.none).goes.2 = true then (fs.set ((hand + k) % fs.length) (fs.getD ((hand + k) % fs.length) Fl.none).goes.1, some ((hand + k) % fs.length, k + 1))
  else turnFrom hand m (k + 1) (fs.set ((hand + k) % fs.length) (fs.getD ((hand + k) % fs.length) Fl.none).goes.1)
theorem turn_spec (fs : List Fl) (h1 : 1 ≤ fs.length) (h2 : fs.length ≤ 64) (hand : Nat) (hh : hand < fs.length) (a : Option Addr) (cap : Nat) (ro : HL) (hro : RoSl 4 (flagsOf fs) a fs.length ro) :
  Ctr Tryz.prog 364 [.slice a fs.length cap, .int .i64 (hand : Int)] [] ro (fun v L' => ∃ a' cap' H, L' = [H] ∧ Own 4 325 (flagsOf (turnFrom hand (2 * fs.length) 0 fs).1) a' fs.length cap' H ∧
   v = (match (turnFrom hand (2 * fs.length) 0 fs).2 with | some (i, k) => .tuple #[.int .i64 (i : Int), .int .i64 (((i + 1) % fs.length : Nat) : Int), .slice a' fs.length cap', .int .i64 (k : Int)] | Option.none => .tuple #[.int .i64 0, .int .i64 (hand : Int), .slice a' fs.length cap', .int .i64 0])) := by
 have hC := Clone_spec fs h1 h2 a cap ro hro
 obtain ⟨n, hn⟩ : ∃ n, fs.length = n := ⟨_, rfl⟩
 refine Ctr.enter (n := 48) [.tmp 4, .tmp 5, .tmp 6, .tmp 7] [(0, _), (1, _)] Tryz.func364 rfl rfl rfl (lb rfl) Tryz.call364 ⟨rfl, rfl, trivial⟩ ?_
 intro cx fin fin0
 refine aG ?_
 refine aC (o := hC) (h := ?_)
 rintro _ _ ⟨ao, co, Ho, rfl, rfl, hown⟩
 obtain ⟨bo, lo, rfl, rfl, g1, g2, g3⟩ := hown.some (by omega)
 have hlo : lo = flagsOf fs ++ lo.drop (fs.length * 4) := by rw [← g3, List.take_append_drop]
 have hrl : (lo.drop (fs.length * 4)).length = co * 4 - fs.length * 4 := by rw [List.length_drop, g2]
 generalize lo.drop (fs.length * 4) = rest at hlo hrl
 subst hlo
 rw [hn] at h1 h2 hh g1 hrl ⊢
 refine aG ?_
 repeat (first | refine gw ?_ | refine gN fun _ => ?_ | refine gB fun _ => ?_ | fail)
 refine aV (OpVal.mul rfl rfl (i64_in _ (by omega))) ?_
 refine aLp (fun q ρ1 L1 => ∃ (k : Nat) (gs : List Fl) (b8 : Nat), k ≤ 2 * n ∧ gs.length = n ∧ turnFrom hand (2 * n - k) k gs = turnFrom hand (2 * n) 0 fs ∧ q = 2 * n - k ∧ ρ1 = [(22, .int .i64 (k : Int)), (21, .int .i64 (2 * (n : Int))), (9, .int .i64 (n : Int)), (1, .int .i64 (hand : Int)), (8, .pointer (some ⟨b8, 0, none⟩)), (10, .func (.func 369) #[] #[.pointer (some ⟨b8, 0, none⟩)]), (11, .int .i64 0), (12, .int .i64 0)] ∧ L1 = [[(bo, .cells (flagsOf gs ++ rest).toArray 325 (0, 0))], [(b8, .cells #[.slice (some ⟨bo, 0, none⟩) n co] 454 (0, 0))]]) (o := ⟨0, fs, _, Nat.zero_le _, hn, rfl, rfl, rfl, rfl⟩) (h := ?_)
 rintro q ρ1 L1 ⟨k, gs, b8, hk, hgl, hturn, rfl, rfl, rfl⟩
 refine aG ?_
 by_cases hlt : k < 2 * n
 ·
  refine aT ?_ (hb := by simp; omega)
  refine aV (OpVal.add rfl rfl (i64_in _ (by omega))) ?_
  have em : ((hand : Int) + (k : Int)).tmod (n : Int) = (((hand + k) % n : Nat) : Int) := by
   rw [show (hand : Int) + (k : Int) = ((hand + k : Nat) : Int) from by omega]
   rfl
  refine aV (OpVal.rem rfl rfl (by omega) em) ?_
  have hi : (hand + k) % n < gs.length := by rw [hgl]; exact Nat.mod_lt _ (by omega)
  have hg := goes_spec gs ((hand + k) % n) hi rest b8 bo co
  rw [hgl] at hg
  have hgd : gs.getD ((hand + k) % gs.length) Fl.none = gs[(hand + k) % n] := by
   rw [hgl, List.getD_eq_getElem?_getD, List.getElem?_eq_getElem hi, Option.getD_some]
  have hstep : turnFrom hand (2 * n - k) k gs = if gs[(hand + k) % n].goes.2 = true then (gs.set ((hand + k) % n) gs[(hand + k) % n].goes.1, some ((hand + k) % n, k + 1)) else turnFrom hand (2 * n - (k + 1)) (k + 1) (gs.set ((hand + k) % n) gs[(hand + k) % n].goes.1) := by
   rw [show 2 * n - k = (2 * n - (k + 1)) + 1 from by omega, turnFrom, hgd, hgl]
  generalize gs[(hand + k) % n] = f at hg hstep
  generalize hj : (hand + k) % n = j at *
  refine aC (o := hg) (h := ?_)
  rintro _ _ ⟨rfl, rfl⟩
  refine aG ?_
  have hsl : (gs.set j f.goes.1).length = n := by simp [hgl]
  by_cases hgo : f.goes.2 = true
  ·
   rw [if_pos hgo] at hstep
   rw [hstep] at hturn
   refine aT ?_ (hb := by exact hgo)
   refine aV (OpVal.add rfl rfl (i64_in _ (by omega))) ?_
   refine aF ?_ (hb := by simp; omega)
   refine W.draw follows (by decide +kernel) (zG ?_)
   refine zV (OpVal.add rfl rfl (i64_in _ (by omega))) ?_
   have em2 : ((j : Int) + 1).tmod (n : Int) = (((j + 1) % n : Nat) : Int) := rfl
   refine zV (OpVal.rem rfl rfl (by omega) em2) ?_
   repeat (first | refine zL ?_ | fail)
   refine WZ.nil (aG ?_)
   refine W.ret (fin _ _ (FinOk.first 1 (.tmp rfl (.tmp rfl (.tmp rfl (.tmp rfl .nil)))) rfl ?_))
   rw [hn, ← hturn]
   exact ⟨_, _, _, rfl, ⟨by rw [flagsOf_len, hsl], .inr ⟨bo, flagsOf (gs.set j f.goes.1) ++ rest, rfl, rfl, g1, by rw [List.length_append, flagsOf_len, hsl, hrl]; omega, by rw [← hsl, ← flagsOf_len]; exact List.take_left⟩⟩, rfl⟩
  ·
   rw [if_neg hgo] at hstep
   rw [hstep] at hturn
   refine aF ?_ (hb := by simpa using hgo)
   refine aV (OpVal.add rfl rfl (i64_in _ (by omega))) ?_
   refine aR (o := ⟨2 * n - (k + 1), by omega, k + 1, _, b8, by omega, hsl, hturn, rfl, rfl, rfl⟩)
 ·
  refine aF ?_ (hb := by simp; omega)
  have hk2 : k = 2 * n := by omega
  subst hk2
  rw [Nat.sub_self, turnFrom] at hturn
  refine aT ?_ (hb := by rfl)
  refine W.draw follows (by decide +kernel) (zG ?_)
  repeat (first | refine zL ?_ | fail)
  refine WZ.nil (aG ?_)
  refine W.ret (fin _ _ (FinOk.first 1 (.tmp rfl (.tmp rfl (.tmp rfl (.tmp rfl .nil)))) rfl ?_))
  rw [hn, ← hturn]
  exact ⟨_, _, _, rfl, ⟨by rw [flagsOf_len, hgl], .inr ⟨bo, flagsOf gs ++ rest, rfl, rfl, g1, by rw [List.length_append, flagsOf_len, hgl, hrl]; omega, by rw [← hgl, ← flagsOf_len]; exact List.take_left⟩⟩, rfl⟩
theorem turnFrom_pos {hand : Nat} : ∀ {m k : Nat} {fs : List Fl} {i q : Nat}, (turnFrom hand m k fs).2 = some (i, q) → 0 < q
 | 0, _, _, _, _, h => by cases h
 | m + 1, k, fs, i, q, h => by
  unfold turnFrom at h
  split at h
  · simp at h; omega
  · exact turnFrom_pos h
theorem turnFrom_len {hand : Nat} : ∀ {m k : Nat} {fs : List Fl}, (turnFrom hand m k fs).1.length = fs.length
 | 0, _, _ => rfl
 | m + 1, k, fs => by
  unfold turnFrom
  split
  · simp
  · rw [turnFrom_len]; simp
theorem Turn_spec (fs : List Fl) (h1 : 1 ≤ fs.length) (h2 : fs.length ≤ 64) (hand : Nat) (hh : hand < fs.length) (a : Option Addr) (cap : Nat) (ro : HL) (hro : RoSl 4 (flagsOf fs) a fs.length ro) :
  Ctr Tryz.prog 351 [.slice a fs.length cap, .int .i64 (hand : Int)] [] ro (fun v L' => ∃ a' cap' H, L' = [H] ∧ Own 4 325 (flagsOf (turnFrom hand (2 * fs.length) 0 fs).1) a' fs.length cap' H ∧
   v = (match (turnFrom hand (2 * fs.length) 0 fs).2 with | some (i, _) => .tuple #[.int .i64 (i : Int), .int .i64 (((i + 1) % fs.length : Nat) : Int), .slice a' fs.length cap', .bool true] | Option.none => .tuple #[.int .i64 0, .int .i64 (hand : Int), .slice a' fs.length cap', .bool false])) := by
 have hT := turn_spec fs h1 h2 hand hh a cap ro hro
 have hpos := @turnFrom_pos hand (2 * fs.length) 0 fs
 generalize turnFrom hand (2 * fs.length) 0 fs = r at hT hpos
 obtain ⟨gs, r2⟩ := r
 cases r2 with
 | none =>
  refine Ctr.enter (n := 25) [.tmp 4, .tmp 5, .tmp 6, .tmp 7] [(0, _), (1, _)] Tryz.func351 rfl rfl rfl (lb rfl) Tryz.call351 ⟨rfl, rfl, trivial⟩ ?_
  intro cx fin fin0
  refine aG ?_
  refine aC (o := hT) (h := ?_)
  rintro _ _ ⟨a', cap', H, rfl, ho, rfl⟩
  refine aG ?_
  refine W.ret (fin _ _ (FinOk.first 1 (.tmp rfl (.tmp rfl (.tmp rfl (.tmp rfl .nil)))) rfl ?_))
  exact ⟨a', cap', H, rfl, ho, rfl⟩
 | some iq =>
  obtain ⟨i, q⟩ := iq
  have hq := hpos rfl
  refine Ctr.enter (n := 25) [.tmp 4, .tmp 5, .tmp 6, .tmp 7] [(0, _), (1, _)] Tryz.func351 rfl rfl rfl (lb rfl) Tryz.call351 ⟨rfl, rfl, trivial⟩ ?_
  intro cx fin fin0
  refine aG ?_
  refine aC (o := hT) (h := ?_)
  rintro _ _ ⟨a', cap', H, rfl, ho, rfl⟩
  refine aG ?_
  refine W.ret (fin _ _ (FinOk.first 1 (.tmp rfl (.tmp rfl (.tmp rfl (.tmp rfl .nil)))) rfl ?_))
  refine ⟨a', cap', H, rfl, ho, ?_⟩
  simp [pack, hq]
end Go.Proofs.YtfpghdcjdnifcaaGreat
namespace Go.Proofs.YtfpghdcjdnifcaaGreat
set_option linter.unusedVariables false
open Go Go.Sl Go.IntWalk
set_option maxHeartbeats 2000000
set_option maxRecDepth 20000
theorem own_spec (bs : List Int) (hl : bs.length ≤ 1000) (a : Option Addr) (cap : Nat) (ro : HL) (hro : RoSl 1 (u8s bs) a bs.length ro) :
  Ctr Tryz.prog 270 [.slice a bs.length cap] [] ro (fun v L' => ∃ b, v = .slice (some ⟨b, 0, none⟩) bs.length bs.length ∧ L' = [[(b, .cells (u8s bs).toArray 5 (0, 0))]]) := by
 refine Ctr.enter (n := 11) [.tmp 2] [(0, _)] Tryz.func270 rfl rfl rfl (lb rfl) Tryz.call270 ⟨rfl, trivial⟩ ?_
 intro cx fin fin0
 refine aG ?_
 refine aW (NewOf.mks (bytes := 1) (len := bs.length) (cap := bs.length) tab_ok rfl rfl rfl rfl rfl rfl rfl rfl rfl (Nat.le_refl _) (by omega) (by omega)) ?_
 intro _
 refine aG ?_
 rename_i b
 have hz : repL bs.length [.int .u8 0] = List.replicate bs.length (.int .u8 0) := by
  generalize bs.length = m
  induction m with
  | zero => rfl
  | succ m ih => rw [repL, ih]; rfl
 rw [hz]
 refine aPr (copyTo (b := b) (ex := 5) (off := 0) (q := bs.length) (l := List.replicate bs.length (.int .u8 0)) tab_ok rfl rfl rfl rfl hro (fun p hp => .inr hp) (by simp) (u8s_one bs) (by omega) (by simp)) ?_
 rintro _ _ ⟨rfl, rfl⟩
 refine aG ?_
 refine W.ret (fin _ _ (FinOk.first 1 (.tmp rfl .nil) rfl ?_))
 refine ⟨b, rfl, ?_⟩
 have h1 : (u8s bs).take bs.length = u8s bs := List.take_of_length_le (by rw [u8s_len]; exact Nat.le_refl _)
 simp [h1]
def fits (pl off n : Int) : Int := if pl = 32 then (if off < 0 ∨ n < 0 ∨ off > 32 ∨ n > 32 - off then 4 else 0) else 2
theorem fits_spec (a : Option Addr) (pl cap : Nat) (off n : Int) (ho : -9223372036854775808 ≤ off ∧ off ≤ 9223372036854775807) : Ctr Tryz.prog 366 [.slice a pl cap, .int .i64 off, .int .i64 n] [] [] (fun v L' => v = .int .i64 (fits pl off n) ∧ L' = []) := by
 refine Ctr.enter (n := 28) [.tmp 6] [(0, _), (1, _), (2, _)] Tryz.func366 rfl rfl rfl (lb rfl) Tryz.call366 ⟨rfl, rfl, rfl, trivial⟩ ?_
 intro cx fin fin0
 refine aG ?_
 by_cases h : pl = 32
 ·
  subst h
  refine aF ?_ (hb := by rfl)
  by_cases h1 : off < 0
  ·
   repeat (first | (refine W.isGuard ?_; first | refine aGo ?_ (hw := by exact gd h1) | refine aSk ?_ (hw := by exact gd h1) | refine aUn ?_) | (refine W.isPick ?_; first | refine aPT ?_ (hb := by exact gd h1) | refine aPF ?_ (hb := by exact gd h1)) | (refine W.isBin ?_; first | refine aV (OpVal.neBool tab_ok rfl rfl rfl) ?_ | refine aV (OpVal.eqBool tab_ok rfl rfl rfl) ?_ | refine aV (OpVal.eqNil tab_ok rfl rfl rfl) ?_ | refine aV (OpVal.neNil tab_ok rfl rfl rfl) ?_) | fail)
   refine aT ?_ (hb := by exact gd h1)
   refine W.ret (fin _ _ (FinOk.mk' ([]) (.tmp rfl .nil) (by repeat (first | exact Sel.nil | (apply Sel.cons; (repeat (first | exact Pick.here | apply Pick.there))))) rfl ?_))
   exact ⟨by simp [pack, fits, h1], rfl⟩
  by_cases h2 : n < 0
  ·
   repeat (first | (refine W.isGuard ?_; first | refine aGo ?_ (hw := by exact gd (gc2 h1 h2)) | refine aSk ?_ (hw := by exact gd (gc2 h1 h2)) | refine aUn ?_) | (refine W.isPick ?_; first | refine aPT ?_ (hb := by exact gd (gc2 h1 h2)) | refine aPF ?_ (hb := by exact gd (gc2 h1 h2))) | (refine W.isBin ?_; first | refine aV (OpVal.neBool tab_ok rfl rfl rfl) ?_ | refine aV (OpVal.eqBool tab_ok rfl rfl rfl) ?_ | refine aV (OpVal.eqNil tab_ok rfl rfl rfl) ?_ | refine aV (OpVal.neNil tab_ok rfl rfl rfl) ?_) | fail)
   refine aT ?_ (hb := by exact gd (gc2 h1 h2))
   refine W.ret (fin _ _ (FinOk.mk' ([]) (.tmp rfl .nil) (by repeat (first | exact Sel.nil | (apply Sel.cons; (repeat (first | exact Pick.here | apply Pick.there))))) rfl ?_))
   exact ⟨by simp [pack, fits, h1, h2], rfl⟩
  by_cases h3 : off > 32
  ·
   repeat (first | (refine W.isGuard ?_; first | refine aGo ?_ (hw := by exact gd (gc3 h1 h2 h3)) | refine aSk ?_ (hw := by exact gd (gc3 h1 h2 h3)) | refine aUn ?_) | (refine W.isPick ?_; first | refine aPT ?_ (hb := by exact gd (gc3 h1 h2 h3)) | refine aPF ?_ (hb := by exact gd (gc3 h1 h2 h3))) | (refine W.isBin ?_; first | refine aV (OpVal.neBool tab_ok rfl rfl rfl) ?_ | refine aV (OpVal.eqBool tab_ok rfl rfl rfl) ?_ | refine aV (OpVal.eqNil tab_ok rfl rfl rfl) ?_ | refine aV (OpVal.neNil tab_ok rfl rfl rfl) ?_) | fail)
   refine aT ?_ (hb := by exact gd (gc3 h1 h2 h3))
   refine W.ret (fin _ _ (FinOk.mk' ([]) (.tmp rfl .nil) (by repeat (first | exact Sel.nil | (apply Sel.cons; (repeat (first | exact Pick.here | apply Pick.there))))) rfl ?_))
   exact ⟨by simp [pack, fits, h1, h2, h3], rfl⟩
  by_cases h4 : n > 32 - off
  ·
   repeat (first | (refine W.isGuard ?_; first | refine aGo ?_ (hw := by exact gd (gc4 h1 h2 h3 h4)) | refine aSk ?_ (hw := by exact gd (gc4 h1 h2 h3 h4)) | refine aUn ?_) | (refine W.isPick ?_; first | refine aPT ?_ (hb := by exact gd (gc4 h1 h2 h3 h4)) | refine aPF ?_ (hb := by exact gd (gc4 h1 h2 h3 h4))) | (refine W.isBin ?_; first | refine aV (OpVal.neBool tab_ok rfl rfl rfl) ?_ | refine aV (OpVal.eqBool tab_ok rfl rfl rfl) ?_ | refine aV (OpVal.eqNil tab_ok rfl rfl rfl) ?_ | refine aV (OpVal.neNil tab_ok rfl rfl rfl) ?_) | fail)
   refine aV (OpVal.sub rfl rfl (i64_in _ (by omega))) ?_
   repeat (first | (refine W.isGuard ?_; first | refine aGo ?_ (hw := by exact gd (gc4 h1 h2 h3 h4)) | refine aSk ?_ (hw := by exact gd (gc4 h1 h2 h3 h4)) | refine aUn ?_) | (refine W.isPick ?_; first | refine aPT ?_ (hb := by exact gd (gc4 h1 h2 h3 h4)) | refine aPF ?_ (hb := by exact gd (gc4 h1 h2 h3 h4))) | (refine W.isBin ?_; first | refine aV (OpVal.neBool tab_ok rfl rfl rfl) ?_ | refine aV (OpVal.eqBool tab_ok rfl rfl rfl) ?_ | refine aV (OpVal.eqNil tab_ok rfl rfl rfl) ?_ | refine aV (OpVal.neNil tab_ok rfl rfl rfl) ?_) | fail)
   refine aT ?_ (hb := by exact gd (gc4 h1 h2 h3 h4))
   refine W.ret (fin _ _ (FinOk.mk' ([]) (.tmp rfl .nil) (by repeat (first | exact Sel.nil | (apply Sel.cons; (repeat (first | exact Pick.here | apply Pick.there))))) rfl ?_))
   exact ⟨by simp [pack, fits, h1, h2, h3, h4], rfl⟩
  ·
   repeat (first | (refine W.isGuard ?_; first | refine aGo ?_ (hw := by exact gd (gc4 h1 h2 h3 h4)) | refine aSk ?_ (hw := by exact gd (gc4 h1 h2 h3 h4)) | refine aUn ?_) | (refine W.isPick ?_; first | refine aPT ?_ (hb := by exact gd (gc4 h1 h2 h3 h4)) | refine aPF ?_ (hb := by exact gd (gc4 h1 h2 h3 h4))) | (refine W.isBin ?_; first | refine aV (OpVal.neBool tab_ok rfl rfl rfl) ?_ | refine aV (OpVal.eqBool tab_ok rfl rfl rfl) ?_ | refine aV (OpVal.eqNil tab_ok rfl rfl rfl) ?_ | refine aV (OpVal.neNil tab_ok rfl rfl rfl) ?_) | fail)
   refine aV (OpVal.sub rfl rfl (i64_in _ (by omega))) ?_
   repeat (first | (refine W.isGuard ?_; first | refine aGo ?_ (hw := by exact gd (gc4 h1 h2 h3 h4)) | refine aSk ?_ (hw := by exact gd (gc4 h1 h2 h3 h4)) | refine aUn ?_) | (refine W.isPick ?_; first | refine aPT ?_ (hb := by exact gd (gc4 h1 h2 h3 h4)) | refine aPF ?_ (hb := by exact gd (gc4 h1 h2 h3 h4))) | (refine W.isBin ?_; first | refine aV (OpVal.neBool tab_ok rfl rfl rfl) ?_ | refine aV (OpVal.eqBool tab_ok rfl rfl rfl) ?_ | refine aV (OpVal.eqNil tab_ok rfl rfl rfl) ?_ | refine aV (OpVal.neNil tab_ok rfl rfl rfl) ?_) | fail)
   refine aF ?_ (hb := by exact gd (gc4 h1 h2 h3 h4))
   refine W.ret (fin _ _ (FinOk.mk' ([]) (.tmp rfl .nil) (by repeat (first | exact Sel.nil | (apply Sel.cons; (repeat (first | exact Pick.here | apply Pick.there))))) rfl ?_))
   exact ⟨by simp [pack, fits, h1, h2, h3, h4], rfl⟩
 ·
  refine aT ?_ (hb := by simp; omega)
  refine W.ret (fin _ _ (FinOk.mk' ([]) (.tmp rfl .nil) (by repeat (first | exact Sel.nil | (apply Sel.cons; (repeat (first | exact Pick.here | apply Pick.there))))) rfl ?_))
  refine ⟨?_, rfl⟩
  have : ¬ ((pl : Int) = 32) := by omega
  simp [pack, fits, this]
theorem fits_0 {pl off n : Int} (h : fits pl off n = 0) : pl = 32 ∧ 0 ≤ off ∧ 0 ≤ n ∧ off + n ≤ 32 := by
 unfold fits at h
 split at h
 ·
  split at h
  · cases h
  · omega
 · cases h
theorem CGet_spec (pg : List Int) (hpg : pg.length ≤ 1000) (ro : HL) (a : Option Addr) (cap : Nat) (hcap : pg.length ≤ cap) (hro : RoSl 1 (u8s pg) a pg.length ro) (off n : Int) (ho : -9223372036854775808 ≤ off ∧ off ≤ 9223372036854775807) :
  Ctr Tryz.prog 354 [.slice a pg.length cap, .int .i64 off, .int .i64 n] [] ro (fun v L' =>
   (fits pg.length off n ≠ 0 ∧ v = .tuple #[.slice none 0 0, .int .i64 (fits pg.length off n)] ∧ L' = []) ∨
   (fits pg.length off n = 0 ∧ ∃ b, v = .tuple #[.slice (some ⟨b, 0, none⟩) n.toNat n.toNat, .int .i64 0] ∧ L' = [[(b, .cells (u8s ((pg.drop off.toNat).take n.toNat)).toArray 5 (0, 0))]])) := by
 have hF := fits_spec a pg.length cap off n ho
 by_cases h0 : fits pg.length off n = 0
 ·
  obtain ⟨h1, h2, h3, h4⟩ := fits_0 h0
  obtain ⟨o, rfl⟩ : ∃ o : Nat, off = (o : Int) := ⟨off.toNat, by omega⟩
  obtain ⟨m, rfl⟩ : ∃ m : Nat, n = (m : Int) := ⟨n.toNat, by omega⟩
  rw [h0] at hF
  rcases hro.2 with ⟨h5, _⟩ | ⟨bx, ox, lx, ex, frx, rfl, rfl, hlx, hcx⟩
  · omega
  have hdl : ((pg.drop o).take m).length = m := by simp; omega
  obtain ⟨ro', hsub, hro'⟩ : ∃ ro', (∀ p ∈ ro', p ∈ [(bx, Obj.cells lx.toArray ex frx)]) ∧ RoSl 1 (u8s ((pg.drop o).take m)) (some ⟨bx, if cap = o then ox else ox + o * 1, none⟩) ((pg.drop o).take m).length ro' := by
   rw [hdl]
   by_cases hc : cap = o
   · exact ⟨[], fun _ h => (by cases h), by rw [u8s_len, hdl]; omega, .inl ⟨by omega, rfl⟩⟩
   ·
    refine ⟨_, fun _ h => h, by rw [u8s_len, hdl]; omega, .inr ⟨bx, _, lx, ex, frx, by rw [if_neg hc], rfl, by omega, ?_⟩⟩
    rw [← u8s_take, ← u8s_drop, ← hcx, Nat.mul_one, Nat.mul_one, Nat.mul_one, List.drop_take, List.take_take, List.drop_drop, Nat.min_eq_left (by omega)]
  have hO := own_spec ((pg.drop o).take m) (by omega) (some ⟨bx, if cap = o then ox else ox + o * 1, none⟩) (cap - o) ro' hro'
  rw [hdl] at hO
  refine Ctr.enter (n := 23) [.tmp 6, .tmp 7] [(0, _), (1, _), (2, _)] Tryz.func354 rfl rfl rfl (lb rfl) Tryz.call354 ⟨rfl, rfl, rfl, trivial⟩ ?_
  intro cx fin fin0
  refine aG ?_
  refine aC (o := hF) (h := ?_)
  rintro _ _ ⟨rfl, rfl⟩
  refine aG ?_
  refine aF ?_ (hb := by rfl)
  refine aV (OpVal.add rfl rfl (i64_in _ (by omega))) ?_
  refine aV (OpVal.pieceG (l := o) (h := o + m) (c := cap) tab_ok rfl rfl rfl ⟨_, rfl⟩ ⟨_, rfl⟩ rfl (by omega) (by omega) (by omega)) ?_
  rw [Nat.add_sub_cancel_left]
  refine aC (o := hO) (h := ?_) (hro := RoIn.all hsub)
  rintro _ _ ⟨b, rfl, rfl⟩
  refine aG ?_
  refine W.ret (fin _ _ (FinOk.first 1 (.tmp rfl (.tmp rfl .nil)) rfl ?_))
  exact .inr ⟨h0, b, rfl, rfl⟩
 ·
  refine Ctr.enter (n := 23) [.tmp 6, .tmp 7] [(0, _), (1, _), (2, _)] Tryz.func354 rfl rfl rfl (lb rfl) Tryz.call354 ⟨rfl, rfl, rfl, trivial⟩ ?_
  intro cx fin fin0
  refine aG ?_
  refine aC (o := hF) (h := ?_)
  rintro _ _ ⟨rfl, rfl⟩
  refine aG ?_
  refine aT ?_ (hb := by simpa using h0)
  refine W.ret (fin _ _ (FinOk.first 0 (.tmp rfl (.tmp rfl .nil)) rfl ?_))
  exact .inl ⟨h0, rfl, rfl⟩
theorem CPut_spec (pg : List Int) (hpg : pg.length ≤ 1000) (ro : HL) (a : Option Addr) (cap : Nat) (hro : RoSl 1 (u8s pg) a pg.length ro) (off : Int) (ho : -9223372036854775808 ≤ off ∧ off ≤ 9223372036854775807)
  (bs : List Int) (ab : Option Addr) (cb : Nat) (rb : HL) (hrb : RoSl 1 (u8s bs) ab bs.length rb) :
  Ctr Tryz.prog 355 [.slice a pg.length cap, .int .i64 off, .slice ab bs.length cb] [] (ro ++ rb) (fun v L' =>
   (fits pg.length off bs.length ≠ 0 ∧ v = .tuple #[.slice none 0 0, .int .i64 (fits pg.length off bs.length)] ∧ L' = []) ∨
   (fits pg.length off bs.length = 0 ∧ ∃ b, v = .tuple #[.slice (some ⟨b, 0, none⟩) pg.length pg.length, .int .i64 0] ∧ L' = [[(b, .cells (u8s (pg.take off.toNat ++ bs ++ pg.drop (off.toNat + bs.length))).toArray 5 (0, 0))]])) := by
 have hF := fits_spec a pg.length cap off bs.length ho
 have hO := own_spec pg hpg a cap ro hro
 by_cases h0 : fits pg.length off bs.length = 0
 ·
  obtain ⟨h1, h2, h3, h4⟩ := fits_0 h0
  obtain ⟨o, rfl⟩ : ∃ o : Nat, off = (o : Int) := ⟨off.toNat, by omega⟩
  rw [h0] at hF
  refine Ctr.enter (n := 26) [.tmp 6, .tmp 7] [(0, _), (1, _), (2, _)] Tryz.func355 rfl rfl rfl (lb rfl) Tryz.call355 ⟨rfl, rfl, rfl, trivial⟩ ?_
  intro cx fin fin0
  refine aG ?_
  refine aC (o := hF) (h := ?_)
  rintro _ _ ⟨rfl, rfl⟩
  refine aG ?_
  refine aF ?_ (hb := by rfl)
  refine aC (o := hO) (h := ?_) (hro := RoIn.all (fun p hp => by simp [hp]))
  rintro _ _ ⟨b, rfl, rfl⟩
  refine aG ?_
  refine aV (OpVal.pieceG (l := o) (h := pg.length) (c := pg.length) tab_ok rfl rfl rfl ⟨_, rfl⟩ ⟨rfl, rfl⟩ rfl (by omega) (by omega) (by omega)) ?_
  by_cases hc : pg.length = o
  ·
   have hb0 : bs = [] := List.eq_nil_of_length_eq_zero (by omega)
   subst hb0
   refine aPr (copyTo (b := b) (ex := 5) (q := 0) (l := u8s pg) tab_ok rfl rfl rfl rfl hrb (fun p hp => .inr (by simp [hp])) (by simp) (u8s_one []) (by simp) (by simp [hc, u8s_len])) ?_
   rintro _ _ ⟨rfl, rfl⟩
   refine aG ?_
   refine W.ret (fin _ _ (FinOk.first 1 (.tmp rfl (.tmp rfl .nil)) rfl ?_))
   refine .inr ⟨h0, b, rfl, ?_⟩
   simp [u8s]
  ·
   refine aPr (copyTo (b := b) (ex := 5) (q := bs.length) (l := u8s pg) tab_ok rfl rfl rfl rfl hrb (fun p hp => .inr (by simp [hp])) (by simp) (u8s_one _) (by omega) (by rw [if_neg hc, u8s_len]; omega)) ?_
   rintro _ _ ⟨rfl, rfl⟩
   refine aG ?_
   refine W.ret (fin _ _ (FinOk.first 1 (.tmp rfl (.tmp rfl .nil)) rfl ?_))
   refine .inr ⟨h0, b, rfl, ?_⟩
   rw [if_neg hc, u8s_append, u8s_append, ← u8s_take, ← u8s_drop, Int.toNat_natCast, Nat.zero_add, Nat.mul_one]
   simp only [Nat.mul_one]
   have e1 : (u8s bs).take bs.length = u8s bs := List.take_of_length_le (by rw [u8s_len]; exact Nat.le_refl _)
   rw [e1]
 ·
  refine Ctr.enter (n := 26) [.tmp 6, .tmp 7] [(0, _), (1, _), (2, _)] Tryz.func355 rfl rfl rfl (lb rfl) Tryz.call355 ⟨rfl, rfl, rfl, trivial⟩ ?_
  intro cx fin fin0
  refine aG ?_
  refine aC (o := hF) (h := ?_)
  rintro _ _ ⟨rfl, rfl⟩
  refine aG ?_
  refine aT ?_ (hb := by simpa using h0)
  refine W.ret (fin _ _ (FinOk.first 0 (.tmp rfl (.tmp rfl .nil)) rfl ?_))
  exact .inl ⟨h0, rfl, rfl⟩
def Fr.Good (f : Fr) : Prop := f.Ok ∧ 0 ≤ f.pins ∧ f.pins ≤ 100 ∧ u8ok f.b
def Fr.pin (f : Fr) : Fr × Int := if f.used = false then (f, 6) else if 100 ≤ f.pins then (f, 13) else (⟨f.used, f.dirty, true, f.pins + 1, f.page, f.b⟩, 0)
def Fr.unpin (f : Fr) : Fr × Int := if f.pins = 0 then (f, 6) else (⟨f.used, f.dirty, f.ref, f.pins - 1, f.page, f.b⟩, 0)
def Fr.get (f : Fr) (off n : Int) : Fr × List Int × Int := if f.pins = 0 then (f, [], 6) else if fits 32 off n ≠ 0 then (f, [], fits 32 off n) else (⟨f.used, f.dirty, true, f.pins, f.page, f.b⟩, (f.b.drop off.toNat).take n.toNat, 0)
def putb (pg : List Int) (off : Int) (bs : List Int) : List Int := pg.take off.toNat ++ bs ++ pg.drop (off.toNat + bs.length)
def Fr.put (f : Fr) (off : Int) (bs : List Int) : Fr × Int := if f.pins = 0 then (f, 6) else if fits 32 off bs.length ≠ 0 then (f, fits 32 off bs.length) else (⟨f.used, true, true, f.pins, f.page, putb f.b off bs⟩, 0)
theorem putb_len {pg bs : List Int} {off : Int} (h : fits pg.length off bs.length = 0) : (putb pg off bs).length = pg.length := by
 have := fits_0 h
 simp [putb]
 omega
theorem Pin_spec (f : Fr) (hf : 0 ≤ f.pins) (A B : List Value) (bf off : Nat) (e : TypeId) (hA : A.length = off) :
  Ctr Tryz.prog 307 [.pointer (some ⟨bf, off, none⟩)] [[(bf, .cells (A ++ f.l ++ B).toArray e (0, 0))]] [] (fun v L' => v = .int .i64 f.pin.2 ∧ L' = [[(bf, .cells (A ++ f.pin.1.l ++ B).toArray e (0, 0))]]) := by
 have hu : (A ++ f.l ++ B)[off]? = some (.bool f.used) := get_mid hA (M := f.l) (o := 0) (by simp [Fr.l])
 have hp : (A ++ f.l ++ B)[off + 3]? = some (.int .i64 f.pins) := get_mid hA (M := f.l) (o := 3) (by simp [Fr.l])
 refine Ctr.enter (n := 25) [.tmp 2] [(0, _)] Tryz.func307 rfl rfl rfl (lb rfl) Tryz.call307 ⟨rfl, trivial⟩ ?_
 intro cx fin fin0
 refine aG ?_
 refine aV (OpVal.load tab_ok rfl (at_own 0 rfl) hu) ?_
 by_cases h1 : f.used = false
 ·
  refine aT ?_ (hb := by exact gd h1)
  refine W.ret (fin _ _ (FinOk.first 1 (.tmp rfl .nil) rfl ?_))
  have : f.pin = (f, 6) := by unfold Fr.pin; rw [if_pos h1]
  rw [this]
  exact ⟨rfl, rfl⟩
 ·
  refine aF ?_ (hb := by simpa using h1)
  refine aV (OpVal.load tab_ok rfl (at_own 0 rfl) hp) ?_
  by_cases h2 : 100 ≤ f.pins
  ·
   refine aT ?_ (hb := by exact gd h2)
   refine W.ret (fin _ _ (FinOk.first 1 (.tmp rfl .nil) rfl ?_))
   have : f.pin = (f, 13) := by unfold Fr.pin; rw [if_neg h1, if_pos h2]
   rw [this]
   exact ⟨rfl, rfl⟩
  ·
   refine aF ?_ (hb := by exact gd h2)
   refine aV (OpVal.load tab_ok rfl (at_own 0 rfl) hp) ?_
   refine aV (OpVal.add rfl rfl (i64_in _ (by omega))) ?_
   have hw1 : splice? (A ++ f.l ++ B) (off + 3) [.int .i64 (f.pins + 1)] = some (A ++ (Fr.mk f.used f.dirty f.ref (f.pins + 1) f.page f.b).l ++ B) := splice_mid hA (M := f.l) (o := 3) rfl
   refine W.store tab_ok rfl Upd.here rfl rfl rfl rfl rfl hw1 (W.step tab_ok rfl rfl ?_)
   have hw2 : splice? (A ++ (Fr.mk f.used f.dirty f.ref (f.pins + 1) f.page f.b).l ++ B) (off + 2) [.bool true] = some (A ++ (Fr.mk f.used f.dirty true (f.pins + 1) f.page f.b).l ++ B) := splice_mid hA (M := (Fr.mk f.used f.dirty f.ref (f.pins + 1) f.page f.b).l) (o := 2) rfl
   refine W.store tab_ok rfl Upd.here rfl rfl rfl rfl rfl hw2 (W.step tab_ok rfl rfl ?_)
   refine W.ret (fin _ _ (FinOk.first 1 (.tmp rfl .nil) rfl ?_))
   have : f.pin = (⟨f.used, f.dirty, true, f.pins + 1, f.page, f.b⟩, 0) := by unfold Fr.pin; rw [if_neg h1, if_neg h2]
   rw [this]
   exact ⟨rfl, rfl⟩
theorem Unpin_spec (f : Fr) (hf : 0 ≤ f.pins ∧ f.pins ≤ 100) (A B : List Value) (bf off : Nat) (e : TypeId) (hA : A.length = off) :
  Ctr Tryz.prog 329 [.pointer (some ⟨bf, off, none⟩)] [[(bf, .cells (A ++ f.l ++ B).toArray e (0, 0))]] [] (fun v L' => v = .int .i64 f.unpin.2 ∧ L' = [[(bf, .cells (A ++ f.unpin.1.l ++ B).toArray e (0, 0))]]) := by
 have hp : (A ++ f.l ++ B)[off + 3]? = some (.int .i64 f.pins) := get_mid hA (M := f.l) (o := 3) (by simp [Fr.l])
 refine Ctr.enter (n := 15) [.tmp 2] [(0, _)] Tryz.func329 rfl rfl rfl (lb rfl) Tryz.call329 ⟨rfl, trivial⟩ ?_
 intro cx fin fin0
 refine aG ?_
 refine aV (OpVal.load tab_ok rfl (at_own 0 rfl) hp) ?_
 by_cases h1 : f.pins = 0
 ·
  refine aT ?_ (hb := by exact gd h1)
  refine W.ret (fin _ _ (FinOk.first 1 (.tmp rfl .nil) rfl ?_))
  have : f.unpin = (f, 6) := by unfold Fr.unpin; rw [if_pos h1]
  rw [this]
  exact ⟨rfl, rfl⟩
 ·
  refine aF ?_ (hb := by exact gd h1)
  refine aV (OpVal.load tab_ok rfl (at_own 0 rfl) hp) ?_
  refine aV (OpVal.sub rfl rfl (i64_in _ (by omega))) ?_
  have hw1 : splice? (A ++ f.l ++ B) (off + 3) [.int .i64 (f.pins - 1)] = some (A ++ (Fr.mk f.used f.dirty f.ref (f.pins - 1) f.page f.b).l ++ B) := splice_mid hA (M := f.l) (o := 3) rfl
  refine W.store tab_ok rfl Upd.here rfl rfl rfl rfl rfl hw1 (W.step tab_ok rfl rfl ?_)
  refine W.ret (fin _ _ (FinOk.first 1 (.tmp rfl .nil) rfl ?_))
  have : f.unpin = (⟨f.used, f.dirty, f.ref, f.pins - 1, f.page, f.b⟩, 0) := by unfold Fr.unpin; rw [if_neg h1]
  rw [this]
  exact ⟨rfl, rfl⟩
theorem Fr.l_fl (f : Fr) : f.l = (Fl.mk f.used f.dirty f.ref f.pins).l ++ (.int .i64 f.page :: f.b.map (.int .u8)) := rfl
theorem FFree_spec (f : Fr) (A B : List Value) (bf off : Nat) (e : TypeId) (hA : A.length = off) :
  Ctr Tryz.prog 332 [.pointer (some ⟨bf, off, none⟩)] [] [(bf, .cells (A ++ f.l ++ B).toArray e (0, 0))] (fun v L' => v = .bool (decide (f.pins = 0)) ∧ L' = []) := by
 have := Free_spec ⟨f.used, f.dirty, f.ref, f.pins⟩ A ((.int .i64 f.page :: f.b.map (.int .u8)) ++ B) bf off e hA
 rw [Fr.l_fl]
 simpa using this
theorem Zero_spec (f : Fr) (hf : f.Ok) (A B : List Value) (bf off : Nat) (e : TypeId) (hA : A.length = off) :
  Ctr Tryz.prog 333 [.pointer (some ⟨bf, off, none⟩)] [[(bf, .cells (A ++ f.l ++ B).toArray e (0, 0))]] [] (fun _ L' => L' = [[(bf, .cells (A ++ Fr.zero.l ++ B).toArray e (0, 0))]]) := by
 refine Ctr.enter (n := 5) [] [(0, _)] Tryz.func333 rfl rfl rfl (lb rfl) Tryz.call333 ⟨rfl, trivial⟩ ?_
 intro cx fin fin0
 refine aG ?_
 refine aV (build_zero) ?_
 refine W.store tab_ok rfl Upd.here rfl rfl rfl (Fr.l_len Fr.zero_ok) (Fr.l_one _) (splice_mid (o := 0) hA (store_all Fr.zero_ok (Fr.l_len hf))) (W.step tab_ok rfl rfl ?_)
 refine fin0 _ _ (FinOk.first 1 .nil rfl ?_)
 rfl
theorem page_ro (f : Fr) (hf : f.Ok) (A B : List Value) (bf off : Nat) (e : TypeId) (hA : A.length = off) : RoSl 1 (u8s f.b) (some ⟨bf, off + 5, none⟩) f.b.length [(bf, .cells (A ++ f.l ++ B).toArray e (0, 0))] := by
 have hb : f.b.length = 32 := hf
 refine ⟨by rw [u8s_len, Nat.mul_one], .inr ⟨bf, off + 5, A ++ f.l ++ B, e, (0, 0), rfl, rfl, ?_, ?_⟩⟩
 ·
  have := Fr.l_len hf
  simp only [List.length_append]; omega
 ·
  have h := seg_mid (A := A) (B := B) (o := 5) (m := 32) hA (seg_bytes hf)
  obtain ⟨_, h2⟩ := seg?_eq _ _ _ h
  rw [hb, Nat.mul_one, ← h2, u8s_map]
theorem FGet_spec (f : Fr) (hf : f.Ok) (A B : List Value) (bf o : Nat) (e : TypeId) (hA : A.length = o) (off n : Int) (ho : -9223372036854775808 ≤ off ∧ off ≤ 9223372036854775807) :
  Ctr Tryz.prog 326 [.pointer (some ⟨bf, o, none⟩), .int .i64 off, .int .i64 n] [[(bf, .cells (A ++ f.l ++ B).toArray e (0, 0))]] []
   (fun v L' => ∃ a len cap H, v = .tuple #[.slice a len cap, .int .i64 (f.get off n).2.2] ∧ L' = [[(bf, .cells (A ++ (f.get off n).1.l ++ B).toArray e (0, 0))], H] ∧ RoSl 1 (u8s (f.get off n).2.1) a len H ∧ (f.get off n).2.1.length = len) := by
 have hFree := FFree_spec f A B bf o e hA
 have hro := page_ro f hf A B bf o e hA
 have hb : f.b.length = 32 := hf
 have hG := CGet_spec f.b (by omega) _ _ 32 (by omega) hro off n ho
 rw [hb, show ((32 : Nat) : Int) = 32 from rfl] at hG
 have hnil : RoSl 1 (u8s []) none 0 [] := ⟨rfl, .inl ⟨rfl, rfl⟩⟩
 refine Ctr.enter (n := 32) [.tmp 6, .tmp 7] [(0, _), (1, _), (2, _)] Tryz.func326 rfl rfl rfl (lb rfl) Tryz.call326 ⟨rfl, rfl, rfl, trivial⟩ ?_
 intro cx fin fin0
 refine aG ?_
 refine aC (o := hFree) (h := ?_)
 rintro _ _ ⟨rfl, rfl⟩
 refine aG ?_
 by_cases h0 : f.pins = 0
 ·
  refine aT ?_ (hb := by exact gd h0)
  refine W.nilChunk ?_
  refine W.group [1] rfl rfl ?_
  refine W.ret (fin _ _ (FinOk.first 2 (.tmp rfl (.tmp rfl .nil)) rfl ?_))
  have : f.get off n = (f, [], 6) := by unfold Fr.get; rw [if_pos h0]
  rw [this]
  exact ⟨none, 0, 0, [], rfl, rfl, hnil, rfl⟩
 ·
  refine aF ?_ (hb := by exact gd h0)
  refine aV (OpVal.arSl tab_ok rfl rfl rfl) ?_
  refine aC (o := hG) (h := ?_)
  rintro _ _ (⟨h1, rfl, rfl⟩ | ⟨h1, b, rfl, rfl⟩)
  ·
   refine aG ?_
   refine aT ?_ (hb := by simpa using h1)
   refine W.nilChunk ?_
   refine W.group [1] rfl rfl ?_
   refine W.ret (fin _ _ (FinOk.first 2 (.tmp rfl (.tmp rfl .nil)) rfl ?_))
   have : f.get off n = (f, [], fits 32 off n) := by unfold Fr.get; rw [if_neg h0, if_pos h1]
   rw [this]
   exact ⟨none, 0, 0, [], rfl, rfl, hnil, rfl⟩
  ·
   refine aG ?_
   refine aF ?_ (hb := by rfl)
   have hw : splice? (A ++ f.l ++ B) (o + 2) [.bool true] = some (A ++ (Fr.mk f.used f.dirty true f.pins f.page f.b).l ++ B) := splice_mid hA (M := f.l) (o := 2) rfl
   refine W.store tab_ok rfl (Upd.there Upd.here) rfl rfl rfl rfl rfl hw (W.step tab_ok rfl rfl ?_)
   refine W.group [1] rfl rfl ?_
   refine W.ret (fin _ _ (FinOk.first 2 (.tmp rfl (.tmp rfl .nil)) rfl ?_))
   have : f.get off n = (⟨f.used, f.dirty, true, f.pins, f.page, f.b⟩, (f.b.drop off.toNat).take n.toNat, 0) := by unfold Fr.get; rw [if_neg h0, if_neg (by omega)]
   rw [this]
   have h2 := fits_0 h1
   have hl : ((f.b.drop off.toNat).take n.toNat).length = n.toNat := by simp [hb]; omega
   refine ⟨_, _, _, _, rfl, rfl, ⟨by rw [u8s_len, hl, Nat.mul_one], .inr ⟨b, 0, _, _, _, rfl, rfl, by rw [u8s_len, hl]; omega, ?_⟩⟩, hl⟩
   rw [List.drop_zero]
   exact List.take_of_length_le (by rw [u8s_len, hl]; omega)
theorem FPut_spec (f : Fr) (hf : f.Ok) (A B : List Value) (bf o : Nat) (e : TypeId) (hA : A.length = o) (off : Int) (ho : -9223372036854775808 ≤ off ∧ off ≤ 9223372036854775807)
  (bs : List Int) (ab : Option Addr) (cb : Nat) (rb : HL) (hrb : RoSl 1 (u8s bs) ab bs.length rb) :
  Ctr Tryz.prog 328 [.pointer (some ⟨bf, o, none⟩), .int .i64 off, .slice ab bs.length cb] [[(bf, .cells (A ++ f.l ++ B).toArray e (0, 0))]] rb
   (fun v L' => v = .int .i64 (f.put off bs).2 ∧ L' = [[(bf, .cells (A ++ (f.put off bs).1.l ++ B).toArray e (0, 0))]]) := by
 have hFree := FFree_spec f A B bf o e hA
 have hro := page_ro f hf A B bf o e hA
 have hb : f.b.length = 32 := hf
 have hP := CPut_spec f.b (by omega) _ _ 32 hro off ho bs ab cb rb hrb
 rw [hb, show ((32 : Nat) : Int) = 32 from rfl] at hP
 have hfl := Fr.l_len hf
 refine Ctr.enter (n := 40) [.tmp 6] [(0, _), (1, _), (2, _)] Tryz.func328 rfl rfl rfl (lb rfl) Tryz.call328 ⟨rfl, rfl, rfl, trivial⟩ ?_
 intro cx fin fin0
 refine aG ?_
 refine aC (o := hFree) (h := ?_)
 rintro _ _ ⟨rfl, rfl⟩
 refine aG ?_
 by_cases h0 : f.pins = 0
 ·
  refine aT ?_ (hb := by exact gd h0)
  refine W.ret (fin _ _ (FinOk.first 1 (.tmp rfl .nil) rfl ?_))
  have : f.put off bs = (f, 6) := by unfold Fr.put; rw [if_pos h0]
  rw [this]
  exact ⟨rfl, rfl⟩
 ·
  refine aF ?_ (hb := by exact gd h0)
  refine aV (OpVal.arSl tab_ok rfl rfl rfl) ?_
  refine W.call rfl rfl rfl rfl hP Sel.nil (RoIn.append (RoIn.own 0 rfl) (RoIn.all (fun p hp => hp))) (by decide) ?_
  rintro _ _ (⟨h1, rfl, rfl⟩ | ⟨h1, b, rfl, rfl⟩)
  ·
   refine aG ?_
   refine aT ?_ (hb := by simpa using h1)
   refine W.ret (fin _ _ (FinOk.first 1 (.tmp rfl .nil) rfl ?_))
   have : f.put off bs = (f, fits 32 off bs.length) := by unfold Fr.put; rw [if_neg h0, if_pos h1]
   rw [this]
   exact ⟨rfl, rfl⟩
  ·
   refine aG ?_
   refine aF ?_ (hb := by rfl)
   refine aV (OpVal.arSl tab_ok rfl rfl rfl) ?_
   have hpl : (putb f.b off bs).length = 32 := by rw [putb_len (by rw [hb]; exact h1), hb]
   have hok : (Fr.mk f.used f.dirty f.ref f.pins f.page (putb f.b off bs)).Ok := hpl
   have hu : RoSl 1 (u8s (putb f.b off bs)) (some ⟨b, 0, none⟩) 32 [(b, .cells (u8s (putb f.b off bs)).toArray 5 (0, 0))] := ⟨by rw [u8s_len, hpl], .inr ⟨b, 0, _, _, _, rfl, rfl, by rw [u8s_len, hpl]; decide, by rw [List.drop_zero]; exact List.take_of_length_le (by rw [u8s_len, hpl]; decide)⟩⟩
   refine aPr (copyTo (b := bf) (ex := e) (q := 32) (l := A ++ f.l ++ B) tab_ok rfl rfl rfl rfl hu (fun p hp => by simp at hp; subst hp; exact at_own 0 rfl) (by simp) (u8s_one _) rfl (by simp only [List.length_append]; omega)) ?_
   rintro _ _ ⟨rfl, rfl⟩
   refine aG ?_
   have e1 : (A ++ f.l ++ B).take (o + 5) ++ (u8s (putb f.b off bs)).take (32 * 1) ++ (A ++ f.l ++ B).drop (o + 5 + 32 * 1) = A ++ (Fr.mk f.used f.dirty f.ref f.pins f.page (putb f.b off bs)).l ++ B := by
    have h2 := splice_mid (A := A) (M := f.l) (B := B) (o := 5) (vs := u8s (putb f.b off bs)) (M' := (Fr.mk f.used f.dirty f.ref f.pins f.page (putb f.b off bs)).l) hA (by
     rw [splice?_of _ _ _ (by rw [u8s_len, hpl, hfl]; decide)]
     simp [Fr.l, u8s_map, hb, hpl])
    obtain ⟨_, h3⟩ := splice?_eq _ _ _ h2
    rw [h3, u8s_len, hpl]
    rw [List.take_of_length_le (l := u8s (putb f.b off bs)) (by rw [u8s_len, hpl]; decide)]
   rw [e1]
   have hw1 : splice? (A ++ (Fr.mk f.used f.dirty f.ref f.pins f.page (putb f.b off bs)).l ++ B) (o + 2) [.bool true] = some (A ++ (Fr.mk f.used f.dirty true f.pins f.page (putb f.b off bs)).l ++ B) := splice_mid hA (M := (Fr.mk f.used f.dirty f.ref f.pins f.page (putb f.b off bs)).l) (o := 2) rfl
   refine W.store tab_ok rfl Upd.here rfl rfl rfl rfl rfl hw1 (W.step tab_ok rfl rfl ?_)
   have hw2 : splice? (A ++ (Fr.mk f.used f.dirty true f.pins f.page (putb f.b off bs)).l ++ B) (o + 1) [.bool true] = some (A ++ (Fr.mk f.used true true f.pins f.page (putb f.b off bs)).l ++ B) := splice_mid hA (M := (Fr.mk f.used f.dirty true f.pins f.page (putb f.b off bs)).l) (o := 1) rfl
   refine W.store tab_ok rfl Upd.here rfl rfl rfl rfl rfl hw2 (W.step tab_ok rfl rfl ?_)
   refine W.ret (fin _ _ (FinOk.first 1 (.tmp rfl .nil) rfl ?_))
   have : f.put off bs = (⟨f.used, true, true, f.pins, f.page, putb f.b off bs⟩, 0) := by unfold Fr.put; rw [if_neg h0, if_neg (by omega)]
   rw [this]
   exact ⟨rfl, rfl⟩
end Go.Proofs.YtfpghdcjdnifcaaGreat
namespace Go.Proofs.YtfpghdcjdnifcaaGreat
open Go Go.Sl Go.IntWalk
set_option maxHeartbeats 2000000
set_option maxRecDepth 20000
def Fr.fl (f : Fr) : Fl := ⟨f.used, f.dirty, f.ref, f.pins⟩
def Fr.setFl (f : Fr) (g : Fl) : Fr := ⟨g.used, g.dirty, g.ref, g.pins, f.page, f.b⟩
theorem Fr.setFl_ok {f : Fr} (h : f.Ok) (g : Fl) : (f.setFl g).Ok := h
def setAll : List Fr → List Fl → List Fr
 | f :: fs, g :: gs => f.setFl g :: setAll fs gs
 | fs, _ => fs
theorem setAll_len : ∀ (fs : List Fr) (gs : List Fl), (setAll fs gs).length = fs.length
 | [], _ => rfl
 | _ :: _, [] => rfl
 | f :: fs, g :: gs => by simp [setAll, setAll_len fs gs]
theorem setAll_next : ∀ (fs : List Fr) (gs : List Fl) (j : Nat) (h : j < fs.length) (h2 : j < gs.length), (setAll fs (gs.take j)).set j (((setAll fs (gs.take j))[j]'(by rw [setAll_len]; exact h)).setFl gs[j]) = setAll fs (gs.take (j + 1))
 | f :: fs, g :: gs, 0, _, _ => by
  cases fs <;> simp [setAll]
 | f :: fs, g :: gs, j + 1, h, h2 => by
  have ih := setAll_next fs gs j (by simpa using h) (by simpa using h2)
  simp only [List.take_succ_cons, setAll, List.set_cons_succ, List.getElem_cons_succ]
  rw [ih]
 | [], _, _, h, _ => by simp at h
 | _ :: _, [], _, _, h2 => by simp at h2
theorem setAll0 : ∀ fs : List Fr, setAll fs [] = fs
 | [] => rfl
 | _ :: _ => rfl
def Pt.victim (p : Pt) : Pt × Option Nat :=
 let r := turnFrom p.hand.toNat (2 * p.fs.length) 0 (p.fs.map Fr.fl)
 (⟨setAll p.fs r.1, p.tbl, match r.2 with | some (i, _) => (((i + 1) % p.fs.length : Nat) : Int) | Option.none => p.hand⟩, r.2.map (·.1))
theorem setAll_ok : ∀ {fs : List Fr} (_ : ∀ f ∈ fs, f.Ok) (gs : List Fl), ∀ f ∈ setAll fs gs, f.Ok
 | [], _, _, f, hf => by simp [setAll] at hf
 | f0 :: fs, h, [], f, hf => h f (by simpa [setAll] using hf)
 | f0 :: fs, h, g :: gs, f, hf => by
  simp only [setAll, List.mem_cons] at hf
  rcases hf with rfl | hf
  · exact Fr.setFl_ok (h f0 (by simp)) g
  · exact setAll_ok (fun x hx => h x (by simp [hx])) gs f hf
theorem own_flag {lo : List Value} {gs : List Fl} {cap n : Nat} (h1 : lo.length = cap * 4) (h2 : lo.take (n * 4) = flagsOf gs) (hc : n ≤ cap) (hn : gs.length = n) {j : Nat} (hj : j < gs.length) : seg? lo (0 + j * 4) 4 = some gs[j].l := by
 refine RoSl.elem (f := Fl.l) (m := 4) (fun _ => rfl) (xs := gs) (off := 0) ?_ ?_ hj
 · rw [hn, h1, Nat.zero_add]; exact Nat.mul_le_mul_right _ hc
 · rw [hn, List.drop_zero]; exact h2
theorem flags_in {fs : List Fr} (h : ∀ f ∈ fs, f.Ok) {i : Nat} (hi : i < fs.length) (g : Fl) : splice? (flat fs) (0 + i * 37) g.l = some (flat (fs.set i (fs[i].setFl g))) := by
 rw [flat_set hi, flat_split hi]
 have hA : (flat (fs.take i)).length = 0 + i * 37 := by rw [take_flat_len h (Nat.le_of_lt hi)]; omega
 exact splice_mid (o := 0) (M := fs[i].l) hA rfl
theorem Victim_spec (p : Pt) (hpo : p.Ok) (hh : 0 ≤ p.hand ∧ p.hand < p.fs.length) (b : Nat) (H : HL) (hp : PtAt p b H) :
  Ctr Tryz.prog 323 [.pointer (some ⟨b, 0, none⟩)] [H] [] (fun v L' => v = (match p.victim.2 with | some i => .tuple #[.int .i64 (i : Int), .bool true] | Option.none => .tuple #[.int .i64 0, .bool false]) ∧ ∃ H', L' = [H'] ∧ PtAt p.victim.1 b H') := by
 have hok := hpo.1
 have h64 := hpo.2.2
 have h1p := hpo.2.1
 obtain ⟨bf, bm, es, clock, rfl, hm⟩ := hp
 refine Ctr.enter (n := 61) [.tmp 2, .tmp 3] [(0, _)] Tryz.func323 rfl rfl rfl (lb rfl) Tryz.call323 ⟨rfl, trivial⟩ ?_
 intro cx fin fin0
 refine aG ?_
 refine W.split 0 rfl ?_
 refine aG ?_
 repeat refine gw ?_
 refine W.nilChunk ?_
 refine aLp (fun k ρ1 L1 => ∃ (j : Nat) (aa : Option Addr) (cc : Nat) (Hl : HL), j ≤ p.fs.length ∧ Own 4 325 (flagsOf ((p.fs.map Fr.fl).take j)) aa j cc Hl ∧ k = p.fs.length - j ∧ ρ1 = [(17, .int .i64 (j : Int)), (16, .int .i64 (p.fs.length : Int)), (15, .slice (some ⟨bf, 0, none⟩) p.fs.length p.fs.length), (4, .slice aa j cc), (0, .pointer (some ⟨b, 0, none⟩))] ∧ L1 = [[(b, .cells #[.slice (some ⟨bf, 0, none⟩) p.fs.length p.fs.length, .map (some bm), .int .i64 p.hand] 314 (0, 0))], [(bf, .cells (flat p.fs).toArray 328 (0, 0))], [(bm, .map es clock)], Hl]) (o := ⟨0, none, 0, [], Nat.zero_le _, Own.nil _ _, rfl, rfl, rfl⟩) (h := ?_)
 rintro k ρ1 L1 ⟨j, aa, cc, Hl, hj, hown, rfl, rfl, rfl⟩
 refine aG ?_
 by_cases hlt : j < p.fs.length
 ·
  refine aT ?_ (hb := by simp; omega)
  have hfo := hok _ (List.getElem_mem hlt)
  have hnx : (p.fs.map Fr.fl).take (j + 1) = (p.fs.map Fr.fl).take j ++ [p.fs[j].fl] := by rw [List.take_add_one]; simp [hlt]
  have hld : ∀ (n : Nat) (cx : Cx) (ρ : Env) (L : List HL) (x : Operand) (ty : Nat) R, ev? ρ x = some (.pointer (some ⟨bf, 0 + j * 37, none⟩)) → At R L bf (.cells (flat p.fs).toArray 328 (0, 0)) → OpVal Tryz.prog n R cx (.load 328 x) ty ρ L p.fs[j].v := fun n cx ρ L x ty R hx hb => load_frame tab_ok rfl hok hlt hx hb
  generalize p.fs[j] = f at hfo hnx hld
  refine aV (OpVal.ixSl tab_ok rfl rfl rfl rfl rfl hlt) ?_
  refine aV (hld _ _ _ _ _ _ _ rfl (at_own 1 rfl)) ?_
  refine W.new tab_ok rfl rfl (by decide) ?_
  intro bt
  refine aG ?_
  refine W.store tab_ok rfl Upd.here rfl rfl rfl (Fr.l_len hfo) (Fr.l_one f) (store_all hfo rfl) (W.step tab_ok rfl rfl ?_)
  refine aV (OpVal.load (v := f.fl.v) tab_ok rfl (at_own 0 rfl) rfl) ?_
  refine aSl (ps := [_]) ?_
  intro bq
  refine aG ?_
  refine aAp (hown) ?_
  rintro _ _ ⟨_, _, _, rfl, rfl, ho⟩
  refine aG ?_
  have ei : flagsOf ((p.fs.map Fr.fl).take j) ++ [.bool f.fl.used, .bool f.fl.dirty, .bool f.fl.ref, .int .i64 f.fl.pins] = flagsOf ((p.fs.map Fr.fl).take (j + 1)) := by rw [hnx]; simp [flagsOf, Fl.l]
  rw [ei] at ho
  refine aV (OpVal.add rfl rfl (i64_in _ (by omega))) ?_
  refine aR (o := ⟨p.fs.length - (j + 1), by omega, j + 1, _, _, _, by omega, ho, rfl, rfl, rfl⟩)
 ·
  refine aF ?_ (hb := by simp; omega)
  have hjn : j = p.fs.length := by omega
  subst hjn
  have hml : (p.fs.map Fr.fl).length = p.fs.length := by simp
  rw [List.take_of_length_le (by omega)] at hown
  obtain ⟨hn, hhn⟩ : ∃ hn : Nat, p.hand = (hn : Int) := ⟨p.hand.toNat, by omega⟩
  have hT := Turn_spec (p.fs.map Fr.fl) (by omega) (by omega) hn (by omega) aa cc Hl (by rw [hml]; exact Own.roSl hown)
  rw [hml] at hT
  rw [hhn]
  repeat refine gw ?_
  refine aC (o := hT) (h := ?_)
  rintro _ _ ⟨a', cap', Ho, rfl, ho, rfl⟩
  obtain ⟨bo, lo, rfl, rfl, g1, g2, g3⟩ := ho.some (by omega)
  have hlen2 : (turnFrom hn (2 * p.fs.length) 0 (p.fs.map Fr.fl)).1.length = p.fs.length := by rw [turnFrom_len, hml]
  have hv : p.victim = (⟨setAll p.fs (turnFrom hn (2 * p.fs.length) 0 (p.fs.map Fr.fl)).1, p.tbl, match (turnFrom hn (2 * p.fs.length) 0 (p.fs.map Fr.fl)).2 with | some (i, _) => (((i + 1) % p.fs.length : Nat) : Int) | Option.none => p.hand⟩, (turnFrom hn (2 * p.fs.length) 0 (p.fs.map Fr.fl)).2.map (·.1)) := by
   unfold Pt.victim
   rw [hhn, Int.toNat_natCast]
  generalize turnFrom hn (2 * p.fs.length) 0 (p.fs.map Fr.fl) = r at *
  obtain ⟨gs, r2⟩ := r
  have hlen3 : gs.length = p.fs.length := hlen2
  cases r2 with
  | none =>
   refine aG ?_
   repeat refine gw ?_
   rw [show flat p.fs = flat (setAll p.fs (gs.take 0)) from by rw [List.take_zero, setAll0]]
   refine aLp (fun k ρ1 L1 => ∃ j : Nat, j ≤ p.fs.length ∧ k = p.fs.length - j ∧ ρ1 = [(44, .int .i64 (j : Int)), (43, .int .i64 (p.fs.length : Int)), (9, .slice (some ⟨bo, 0, none⟩) p.fs.length cap'), (0, .pointer (some ⟨b, 0, none⟩)), (7, .int .i64 0), (10, .bool false)] ∧ L1 = [[(b, .cells #[.slice (some ⟨bf, 0, none⟩) p.fs.length p.fs.length, .map (some bm), .int .i64 (hn : Int)] 314 (0, 0))], [(bf, .cells (flat (setAll p.fs (gs.take j))).toArray 328 (0, 0))], [(bm, .map es clock)], [(bo, .cells lo.toArray 325 (0, 0))]]) (o := ⟨0, Nat.zero_le _, rfl, rfl, rfl⟩) (h := ?_)
   rintro k ρ1 L1 ⟨j, hj, rfl, rfl, rfl⟩
   refine aG ?_
   by_cases hlt : j < p.fs.length
   ·
    refine aT ?_ (hb := by simp; omega)
    have hsl := setAll_len p.fs (gs.take j)
    have hjg : j < gs.length := by omega
    have hnx := setAll_next p.fs gs j hlt hjg
    have hokj := setAll_ok hok (gs.take j)
    have hjs : j < (setAll p.fs (gs.take j)).length := by omega
    have hget : seg? lo (0 + j * 4) 4 = some gs[j].l := own_flag g2 g3 (by omega) hlen3 hjg
    have hw := flags_in hokj hjs gs[j]
    rw [hnx] at hw
    generalize gs[j] = g at hget hw
    refine W.drawTail 9 follows (by decide +kernel) (zG ?_)
    repeat (first | refine zL ?_ | fail)
    refine zV (OpVal.ixSl tab_ok rfl rfl rfl rfl rfl hlt) ?_
    refine zV (OpVal.load (v := g.v) tab_ok rfl (at_own 3 rfl) (by show (match seg? lo (0 + j * 4) 4 with | some vs => some (Value.agg ⟨vs⟩) | none => none) = _; rw [hget]; rfl)) ?_
    refine WZ.nil (aG ?_)
    refine aV (OpVal.ixSl tab_ok rfl rfl rfl rfl rfl hlt) ?_
    refine W.store tab_ok rfl (Upd.there Upd.here) rfl rfl rfl rfl rfl hw (W.step tab_ok rfl rfl ?_)
    refine aV (OpVal.add rfl rfl (i64_in _ (by omega))) ?_
    refine aR (o := ⟨p.fs.length - (j + 1), by omega, j + 1, by omega, rfl, rfl, rfl⟩)
   ·
    refine aF ?_ (hb := by simp; omega)
    have hjn : j = p.fs.length := by omega
    subst hjn
    rw [List.take_of_length_le (by rw [hlen3]; exact Nat.le_refl _)]
    refine W.group [0, 0, 0] rfl rfl ?_
    refine W.ret (fin _ _ (FinOk.first 1 (.tmp rfl (.tmp rfl .nil)) rfl ?_))
    rw [hv]
    refine ⟨rfl, _, rfl, bf, bm, es, clock, ?_, hm⟩
    simp only [setAll_len]
    try rw [hhn]
    try rfl
  | some iq =>
   obtain ⟨i, q⟩ := iq
   refine aG ?_
   repeat refine gw ?_
   rw [show flat p.fs = flat (setAll p.fs (gs.take 0)) from by rw [List.take_zero, setAll0]]
   refine aLp (fun k ρ1 L1 => ∃ j : Nat, j ≤ p.fs.length ∧ k = p.fs.length - j ∧ ρ1 = [(44, .int .i64 (j : Int)), (43, .int .i64 (p.fs.length : Int)), (9, .slice (some ⟨bo, 0, none⟩) p.fs.length cap'), (0, .pointer (some ⟨b, 0, none⟩)), (7, .int .i64 (i : Int)), (10, .bool true)] ∧ L1 = [[(b, .cells #[.slice (some ⟨bf, 0, none⟩) p.fs.length p.fs.length, .map (some bm), .int .i64 (((i + 1) % p.fs.length : Nat) : Int)] 314 (0, 0))], [(bf, .cells (flat (setAll p.fs (gs.take j))).toArray 328 (0, 0))], [(bm, .map es clock)], [(bo, .cells lo.toArray 325 (0, 0))]]) (o := ⟨0, Nat.zero_le _, rfl, rfl, rfl⟩) (h := ?_)
   rintro k ρ1 L1 ⟨j, hj, rfl, rfl, rfl⟩
   refine aG ?_
   by_cases hlt : j < p.fs.length
   ·
    refine aT ?_ (hb := by simp; omega)
    have hsl := setAll_len p.fs (gs.take j)
    have hjg : j < gs.length := by omega
    have hnx := setAll_next p.fs gs j hlt hjg
    have hokj := setAll_ok hok (gs.take j)
    have hjs : j < (setAll p.fs (gs.take j)).length := by omega
    have hget : seg? lo (0 + j * 4) 4 = some gs[j].l := own_flag g2 g3 (by omega) hlen3 hjg
    have hw := flags_in hokj hjs gs[j]
    rw [hnx] at hw
    generalize gs[j] = g at hget hw
    refine W.drawTail 9 follows (by decide +kernel) (zG ?_)
    repeat (first | refine zL ?_ | fail)
    refine zV (OpVal.ixSl tab_ok rfl rfl rfl rfl rfl hlt) ?_
    refine zV (OpVal.load (v := g.v) tab_ok rfl (at_own 3 rfl) (by show (match seg? lo (0 + j * 4) 4 with | some vs => some (Value.agg ⟨vs⟩) | none => none) = _; rw [hget]; rfl)) ?_
    refine WZ.nil (aG ?_)
    refine aV (OpVal.ixSl tab_ok rfl rfl rfl rfl rfl hlt) ?_
    refine W.store tab_ok rfl (Upd.there Upd.here) rfl rfl rfl rfl rfl hw (W.step tab_ok rfl rfl ?_)
    refine aV (OpVal.add rfl rfl (i64_in _ (by omega))) ?_
    refine aR (o := ⟨p.fs.length - (j + 1), by omega, j + 1, by omega, rfl, rfl, rfl⟩)
   ·
    refine aF ?_ (hb := by simp; omega)
    have hjn : j = p.fs.length := by omega
    subst hjn
    rw [List.take_of_length_le (by rw [hlen3]; exact Nat.le_refl _)]
    refine W.group [0, 0, 0] rfl rfl ?_
    refine W.ret (fin _ _ (FinOk.first 1 (.tmp rfl (.tmp rfl .nil)) rfl ?_))
    rw [hv]
    refine ⟨rfl, _, rfl, bf, bm, es, clock, ?_, hm⟩
    simp only [setAll_len]
    try rw [hhn]
    try rfl
end Go.Proofs.YtfpghdcjdnifcaaGreat
namespace Go.Proofs.YtfpghdcjdnifcaaGreat
open Go Go.Sl Go.IntWalk
set_option maxHeartbeats 2000000
set_option maxRecDepth 20000
structure Pt.Inv (p : Pt) : Prop where
 ok : p.Ok
 good : ∀ f ∈ p.fs, f.Good
 hand : 0 ≤ p.hand ∧ p.hand < p.fs.length
 tbl : ∀ page i, mget p.tbl page = some i → ∃ j, ∃ _ : j < p.fs.length, i = (j : Int) ∧ p.fs[j].used = true ∧ p.fs[j].page = page
 inv : ∀ j (h : j < p.fs.length), p.fs[j].used = true → mget p.tbl p.fs[j].page = some (j : Int)
 emp : ∀ f ∈ p.fs, f.used = false → f = Fr.zero
 nd : (p.tbl.map (·.1)).Nodup
def Pt.setF (p : Pt) (j : Nat) (f : Fr) : Pt := ⟨p.fs.set j f, p.tbl, p.hand⟩
theorem pin_method (bf off : Nat) (w : World) : (do let d ← Deferred.ofValue (.func (.methodOf 385 "Pin") #[] #[]) #[.pointer (some ⟨bf, off, none⟩)]; invoke d.target d.args : Sem Next).run Tryz.prog w = .ok (.enter 307 #[.pointer (some ⟨bf, off, none⟩)]) w := by
 kernel_rfl
theorem unpin_method (bf off : Nat) (w : World) : (do let d ← Deferred.ofValue (.func (.methodOf 385 "Unpin") #[] #[]) #[.pointer (some ⟨bf, off, none⟩)]; invoke d.target d.args : Sem Next).run Tryz.prog w = .ok (.enter 329 #[.pointer (some ⟨bf, off, none⟩)]) w := by
 kernel_rfl
theorem of_spec (p : Pt) (hi : p.Inv) (b : Nat) (H : HL) (hp : PtAt p b H) (page : Int) (dv : Value) (X : HL) (ro : HL) (Q : Fr → Fr → Value → HL → Prop)
  (hdo : ∀ (j : Nat) (h : j < p.fs.length) (A B : List Value) (bf off : Nat), A.length = off → CtrV Tryz.prog dv [.pointer (some ⟨bf, off, none⟩)] [[(bf, .cells (A ++ p.fs[j].l ++ B).toArray 328 (0, 0))], X] ro
   (fun v L' => ∃ f' X', L' = [[(bf, .cells (A ++ f'.l ++ B).toArray 328 (0, 0))], X'] ∧ Q p.fs[j] f' v X')) :
  Ctr Tryz.prog 306 [.pointer (some ⟨b, 0, none⟩), .int .i64 page, dv] [H, X] ro (fun v L' => (mget p.tbl page = none ∧ v = .int .i64 6 ∧ L' = [H, X]) ∨
   ∃ (j : Nat) (_ : j < p.fs.length) (f' : Fr) (X' H' : HL), mget p.tbl page = some (j : Int) ∧ Q p.fs[j] f' v X' ∧ L' = [H', X'] ∧ PtAt (p.setF j f') b H') := by
 have hF := Find_spec p b H hp page
 cases hg : mget p.tbl page with
 | none =>
  rw [hg] at hF
  refine Ctr.enter (n := 25) [.tmp 6] [(0, _), (1, _), (2, _)] Tryz.func306 rfl rfl rfl (lb rfl) Tryz.call306 ⟨rfl, rfl, rfl, trivial⟩ ?_
  intro cx fin fin0
  refine aG ?_
  refine aC (o := hF) (h := ?_)
  rintro _ _ ⟨rfl, rfl⟩
  refine aG ?_
  refine aT ?_ (hb := by rfl)
  refine W.ret (fin _ _ (FinOk.first 2 (.tmp rfl .nil) rfl ?_))
  exact .inl ⟨rfl, rfl, rfl⟩
 | some i =>
  obtain ⟨j, hj, rfl, hu, hpg⟩ := hi.tbl page i hg
  rw [hg] at hF
  have hsp := flat_split hj
  have hset := fun f' => flat_set hj f'
  have hA : (flat (p.fs.take j)).length = 0 + j * 37 := by rw [take_flat_len hi.ok.1 (Nat.le_of_lt hj)]; omega
  have hD := hdo j hj (flat (p.fs.take j)) (flat (p.fs.drop (j + 1)))
  obtain ⟨f, hfe⟩ : ∃ f, p.fs[j] = f := ⟨_, rfl⟩
  rw [hfe] at hsp hD
  obtain ⟨bf, bm, es, clock, rfl, hm⟩ := hp
  refine Ctr.enter (n := 25) [.tmp 6] [(0, _), (1, _), (2, _)] Tryz.func306 rfl rfl rfl (lb rfl) Tryz.call306 ⟨rfl, rfl, rfl, trivial⟩ ?_
  intro cx fin fin0
  refine aG ?_
  refine aC (o := hF) (h := ?_)
  rintro _ _ ⟨rfl, rfl⟩
  refine aG ?_
  refine aF ?_ (hb := by rfl)
  refine W.split 0 rfl ?_
  refine aG ?_
  repeat refine gw ?_
  refine aV (OpVal.ixSl tab_ok rfl rfl rfl rfl rfl hj) ?_
  rw [hsp]
  refine aCV (o := hD bf _ hA) (h := ?_)
  rintro _ _ ⟨f', X', rfl, hq⟩
  refine aG ?_
  rw [← hset]
  refine W.group [2, 0, 1] rfl rfl ?_
  refine W.ret (fin _ _ (FinOk.first 2 (.tmp rfl .nil) rfl ?_))
  refine .inr ⟨j, hj, f', X', _, rfl, by rw [hfe]; exact hq, rfl, bf, bm, es, clock, ?_, hm⟩
  simp [Pt.setF]
def Pt.doPage (p : Pt) (page : Int) (g : Fr → Fr × Int) : Pt × Int := match mget p.tbl page with
 | some i => (p.setF i.toNat (g (p.at_ i)).1, (g (p.at_ i)).2)
 | none => (p, 6)
theorem Pt.doPage_some {p : Pt} {page : Int} {g : Fr → Fr × Int} {j : Nat} (h : j < p.fs.length) (hg : mget p.tbl page = some (j : Int)) : p.doPage page g = (p.setF j (g p.fs[j]).1, (g p.fs[j]).2) := by
 unfold Pt.doPage
 rw [hg]
 simp only [Pt.at_nat h, Int.toNat_natCast]
theorem Pt.doPage_none {p : Pt} {page : Int} {g : Fr → Fr × Int} (hg : mget p.tbl page = none) : p.doPage page g = (p, 6) := by
 unfold Pt.doPage
 rw [hg]
theorem PPin_spec (p : Pt) (hi : p.Inv) (b : Nat) (H : HL) (hp : PtAt p b H) (page : Int) :
  Ctr Tryz.prog 268 [.pointer (some ⟨b, 0, none⟩), .int .i64 page] [H] [] (fun v L' => v = .int .i64 (p.doPage page Fr.pin).2 ∧ ∃ H', L' = [H'] ∧ PtAt (p.doPage page Fr.pin).1 b H') := by
 have hO := of_spec p hi b H hp page (.func (.methodOf 385 "Pin") #[] #[]) [] [] (fun f f' v X' => v = .int .i64 f.pin.2 ∧ f' = f.pin.1 ∧ X' = []) (fun j hj A B bf off hA => by
  refine ⟨_, _, fun w => pin_method bf off w, ?_⟩
  have h1 := Pin_spec p.fs[j] (hi.good _ (List.getElem_mem hj)).2.1 A B bf off 328 hA
  exact (h1.frame [[]]).post fun v L' ⟨L1, e1, e2, e3⟩ => ⟨_, [], by rw [e1, e3]; rfl, e2, rfl, rfl⟩)
 refine Ctr.enter (n := 9) [.tmp 4] [(0, _), (1, _)] Tryz.func268 rfl rfl rfl (lb rfl) Tryz.call268 ⟨rfl, rfl, trivial⟩ ?_
 intro cx fin fin0
 refine aG ?_
 refine W.nilChunk ?_
 refine aC (o := hO) (h := ?_)
 rintro _ _ (⟨h1, rfl, rfl⟩ | ⟨j, hj, f', X', H', h1, ⟨rfl, rfl, rfl⟩, rfl, hp'⟩)
 ·
  refine aG ?_
  refine W.ret (fin _ _ (FinOk.first 1 (.tmp rfl .nil) rfl ?_))
  rw [Pt.doPage_none h1]
  exact ⟨rfl, _, rfl, hp⟩
 ·
  refine aG ?_
  refine W.ret (fin _ _ (FinOk.first 1 (.tmp rfl .nil) rfl ?_))
  rw [Pt.doPage_some hj h1]
  exact ⟨rfl, _, rfl, hp'⟩
theorem PUnpin_spec (p : Pt) (hi : p.Inv) (b : Nat) (H : HL) (hp : PtAt p b H) (page : Int) :
  Ctr Tryz.prog 296 [.pointer (some ⟨b, 0, none⟩), .int .i64 page] [H] [] (fun v L' => v = .int .i64 (p.doPage page Fr.unpin).2 ∧ ∃ H', L' = [H'] ∧ PtAt (p.doPage page Fr.unpin).1 b H') := by
 have hO := of_spec p hi b H hp page (.func (.methodOf 385 "Unpin") #[] #[]) [] [] (fun f f' v X' => v = .int .i64 f.unpin.2 ∧ f' = f.unpin.1 ∧ X' = []) (fun j hj A B bf off hA => by
  refine ⟨_, _, fun w => unpin_method bf off w, ?_⟩
  have h1 := Unpin_spec p.fs[j] ⟨(hi.good _ (List.getElem_mem hj)).2.1, (hi.good _ (List.getElem_mem hj)).2.2.1⟩ A B bf off 328 hA
  exact (h1.frame [[]]).post fun v L' ⟨L1, e1, e2, e3⟩ => ⟨_, [], by rw [e1, e3]; rfl, e2, rfl, rfl⟩)
 refine Ctr.enter (n := 9) [.tmp 4] [(0, _), (1, _)] Tryz.func296 rfl rfl rfl (lb rfl) Tryz.call296 ⟨rfl, rfl, trivial⟩ ?_
 intro cx fin fin0
 refine aG ?_
 refine W.nilChunk ?_
 refine aC (o := hO) (h := ?_)
 rintro _ _ (⟨h1, rfl, rfl⟩ | ⟨j, hj, f', X', H', h1, ⟨rfl, rfl, rfl⟩, rfl, hp'⟩)
 ·
  refine aG ?_
  refine W.ret (fin _ _ (FinOk.first 1 (.tmp rfl .nil) rfl ?_))
  rw [Pt.doPage_none h1]
  exact ⟨rfl, _, rfl, hp⟩
 ·
  refine aG ?_
  refine W.ret (fin _ _ (FinOk.first 1 (.tmp rfl .nil) rfl ?_))
  rw [Pt.doPage_some hj h1]
  exact ⟨rfl, _, rfl, hp'⟩
theorem PGet1_spec (f : Fr) (hf : f.Ok) (A B : List Value) (bf o : Nat) (hA : A.length = o) (off n : Int) (ho : -9223372036854775808 ≤ off ∧ off ≤ 9223372036854775807) (b6 b7 bx : Nat) :
  Ctr Tryz.prog 325 [.pointer (some ⟨bf, o, none⟩), .pointer (some ⟨b6, 0, none⟩), .pointer (some ⟨b7, 0, none⟩), .pointer (some ⟨bx, 0, none⟩)]
   [[(bf, .cells (A ++ f.l ++ B).toArray 328 (0, 0))], [(bx, .cells #[.slice none 0 0] 54 (0, 0))]] [(b6, .cells #[.int .i64 off] 3 (0, 0)), (b7, .cells #[.int .i64 n] 3 (0, 0))]
   (fun v L' => ∃ a len cap H, v = .int .i64 (f.get off n).2.2 ∧ L' = [[(bf, .cells (A ++ (f.get off n).1.l ++ B).toArray 328 (0, 0))], (bx, .cells #[.slice a len cap] 54 (0, 0)) :: H] ∧
    RoSl 1 (u8s (f.get off n).2.1) a len H ∧ (f.get off n).2.1.length = len) := by
 have hG := FGet_spec f hf A B bf o 328 hA off n ho
 refine Ctr.enter (n := 17) [.tmp 5] [(0, _), (1, _), (2, _), (3, _)] Tryz.func325 rfl rfl rfl (lb rfl) Tryz.call325 ⟨rfl, rfl, rfl, rfl, trivial⟩ ?_
 intro cx fin fin0
 refine aG ?_
 repeat refine gw ?_
 refine aC (o := hG) (h := ?_)
 rintro _ _ ⟨a, len, cap, H, rfl, rfl, h1, h2⟩
 refine aG ?_
 repeat refine gw ?_
 refine W.groupV [2, 1] rfl ?_
 refine W.order [1, 0] rfl ?_
 refine W.ret (fin _ _ (FinOk.first 2 (.tmp rfl .nil) rfl ?_))
 exact ⟨a, len, cap, H, rfl, rfl, h1, h2⟩
def Pt.get (p : Pt) (page off n : Int) : Pt × List Int × Int := match mget p.tbl page with
 | some i => (p.setF i.toNat ((p.at_ i).get off n).1, ((p.at_ i).get off n).2)
 | none => (p, [], 6)
theorem Pt.get_some {p : Pt} {page off n : Int} {j : Nat} (h : j < p.fs.length) (hg : mget p.tbl page = some (j : Int)) : p.get page off n = (p.setF j (p.fs[j].get off n).1, (p.fs[j].get off n).2) := by
 unfold Pt.get
 rw [hg]
 simp only [Pt.at_nat h, Int.toNat_natCast]
theorem Pt.get_none {p : Pt} {page off n : Int} (hg : mget p.tbl page = none) : p.get page off n = (p, [], 6) := by
 unfold Pt.get
 rw [hg]
theorem PGet_spec (p : Pt) (hi : p.Inv) (b : Nat) (H : HL) (hp : PtAt p b H) (page off n : Int) (ho : -9223372036854775808 ≤ off ∧ off ≤ 9223372036854775807) :
  Ctr Tryz.prog 291 [.pointer (some ⟨b, 0, none⟩), .int .i64 page, .int .i64 off, .int .i64 n] [H] [] (fun v L' => ∃ a len cap H' Hs, v = .tuple #[.slice a len cap, .int .i64 (p.get page off n).2.2] ∧
   L' = [H', Hs] ∧ PtAt (p.get page off n).1 b H' ∧ RoSl 1 (u8s (p.get page off n).2.1) a len Hs ∧ (p.get page off n).2.1.length = len) := by
 have hO := fun b6 b7 bx => of_spec p hi b H hp page (.func (.func 325) #[] #[.pointer (some ⟨b6, 0, none⟩), .pointer (some ⟨b7, 0, none⟩), .pointer (some ⟨bx, 0, none⟩)]) [(bx, .cells #[.slice none 0 0] 54 (0, 0))]
  [(b6, .cells #[.int .i64 off] 3 (0, 0)), (b7, .cells #[.int .i64 n] 3 (0, 0))]
  (fun f f' v X' => ∃ a len cap H, v = .int .i64 (f.get off n).2.2 ∧ f' = (f.get off n).1 ∧ X' = (bx, .cells #[.slice a len cap] 54 (0, 0)) :: H ∧ RoSl 1 (u8s (f.get off n).2.1) a len H ∧ (f.get off n).2.1.length = len) (fun j hj A B bf o hA => by
   have h1 := PGet1_spec p.fs[j] (hi.ok.1 _ (List.getElem_mem hj)) A B bf o hA off n ho b6 b7 bx
   refine (h1.post ?_).v (fst := []) (cap := [_, _, _]) rfl
   rintro v L' ⟨a, len, cap, H, e1, e2, e3, e4⟩
   exact ⟨_, _, e2, a, len, cap, H, e1, rfl, rfl, e3, e4⟩)
 have hnil : RoSl 1 (u8s []) none 0 [] := ⟨rfl, .inl ⟨rfl, rfl⟩⟩
 refine Ctr.enter (n := 18) [.tmp 8, .tmp 9] [(0, _), (1, _), (2, _), (3, _)] Tryz.func291 rfl rfl rfl (lb rfl) Tryz.call291 ⟨rfl, rfl, rfl, rfl, trivial⟩ ?_
 intro cx fin fin0
 refine aG ?_
 repeat (first | refine gw ?_ | refine gN fun _ => ?_ | refine gB fun _ => ?_ | fail)
 refine aC (o := hO _ _ _) (h := ?_)
 rintro _ _ (⟨h1, rfl, rfl⟩ | ⟨j, hj, f', X', H', h1, ⟨a, len, cap, Hs, rfl, rfl, rfl, h2, h3⟩, rfl, hp'⟩)
 ·
  refine aG ?_
  repeat refine gw ?_
  refine W.nilChunk ?_
  refine W.order [1, 0] rfl ?_
  refine W.ret (fin _ _ (FinOk.first 2 (.tmp rfl (.tmp rfl .nil)) rfl ?_))
  rw [Pt.get_none h1]
  exact ⟨none, 0, 0, _, [], rfl, rfl, hp, hnil, rfl⟩
 ·
  refine aG ?_
  refine W.splitN 1 1 rfl ?_
  refine aG ?_
  repeat refine gw ?_
  refine W.order [0, 1] rfl ?_
  refine W.ret (fin _ _ (FinOk.first 2 (.tmp rfl (.tmp rfl .nil)) rfl ?_))
  rw [Pt.get_some hj h1]
  exact ⟨a, len, cap, _, _, rfl, rfl, hp', h2, h3⟩
theorem PPut1_spec (f : Fr) (hf : f.Ok) (A B : List Value) (bf o : Nat) (hA : A.length = o) (off : Int) (ho : -9223372036854775808 ≤ off ∧ off ≤ 9223372036854775807) (bs : List Int) (ab : Option Addr) (cb : Nat) (rb : HL) (hrb : RoSl 1 (u8s bs) ab bs.length rb) (b6 b7 : Nat) :
  Ctr Tryz.prog 327 [.pointer (some ⟨bf, o, none⟩), .pointer (some ⟨b6, 0, none⟩), .pointer (some ⟨b7, 0, none⟩)]
   [[(bf, .cells (A ++ f.l ++ B).toArray 328 (0, 0))]] ((b6, .cells #[.int .i64 off] 3 (0, 0)) :: (b7, .cells #[.slice ab bs.length cb] 54 (0, 0)) :: rb)
   (fun v L' => v = .int .i64 (f.put off bs).2 ∧ L' = [[(bf, .cells (A ++ (f.put off bs).1.l ++ B).toArray 328 (0, 0))]]) := by
 have hP := FPut_spec f hf A B bf o 328 hA off ho bs ab cb rb hrb
 refine Ctr.enter (n := 9) [.tmp 4] [(0, _), (1, _), (2, _)] Tryz.func327 rfl rfl rfl (lb rfl) Tryz.call327 ⟨rfl, rfl, rfl, trivial⟩ ?_
 intro cx fin fin0
 refine aG ?_
 refine aV (OpVal.load tab_ok rfl (at_ro 0 rfl) rfl) ?_
 refine aV (OpVal.load tab_ok rfl (at_ro 1 rfl) rfl) ?_
 refine aC (o := hP) (h := ?_) (hro := RoIn.all (fun p hp => by simp [hp]))
 rintro _ _ ⟨rfl, rfl⟩
 refine aG ?_
 refine W.ret (fin _ _ (FinOk.first 1 (.tmp rfl .nil) rfl ?_))
 exact ⟨rfl, rfl⟩
theorem PPut_spec (p : Pt) (hi : p.Inv) (b : Nat) (H : HL) (hp : PtAt p b H) (page off : Int) (ho : -9223372036854775808 ≤ off ∧ off ≤ 9223372036854775807) (bs : List Int) (ab : Option Addr) (cb : Nat) (rb : HL) (hrb : RoSl 1 (u8s bs) ab bs.length rb) :
  Ctr Tryz.prog 294 [.pointer (some ⟨b, 0, none⟩), .int .i64 page, .int .i64 off, .slice ab bs.length cb] [H] rb (fun v L' => v = .int .i64 (p.doPage page (fun f => f.put off bs)).2 ∧ ∃ H', L' = [H'] ∧ PtAt (p.doPage page (fun f => f.put off bs)).1 b H') := by
 have hO := fun b6 b7 => of_spec p hi b H hp page (.func (.func 327) #[] #[.pointer (some ⟨b6, 0, none⟩), .pointer (some ⟨b7, 0, none⟩)]) []
  ((b6, .cells #[.int .i64 off] 3 (0, 0)) :: (b7, .cells #[.slice ab bs.length cb] 54 (0, 0)) :: rb)
  (fun f f' v X' => v = .int .i64 (f.put off bs).2 ∧ f' = (f.put off bs).1 ∧ X' = []) (fun j hj A B bf o hA => by
   have h1 := PPut1_spec p.fs[j] (hi.ok.1 _ (List.getElem_mem hj)) A B bf o hA off ho bs ab cb rb hrb b6 b7
   refine ((h1.frame [[]]).post ?_).v (fst := []) (cap := [_, _]) rfl
   rintro v L' ⟨L1, e1, e2, e3⟩
   exact ⟨_, [], by rw [e1, e3]; rfl, e2, rfl, rfl⟩)
 refine Ctr.enter (n := 13) [.tmp 8] [(0, _), (1, _), (2, _), (3, _)] Tryz.func294 rfl rfl rfl (lb rfl) Tryz.call294 ⟨rfl, rfl, rfl, rfl, trivial⟩ ?_
 intro cx fin fin0
 refine aG ?_
 repeat (first | refine gw ?_ | refine gN fun _ => ?_ | refine gB fun _ => ?_ | fail)
 refine W.nilChunk ?_
 refine aC (o := hO _ _) (h := ?_) (hro := by exact RoIn.cons (at_own 1 rfl) (RoIn.cons (at_own 0 rfl) (RoIn.all (fun p hp => hp))))
 rintro _ _ (⟨h1, rfl, rfl⟩ | ⟨j, hj, f', X', H', h1, ⟨rfl, rfl, rfl⟩, rfl, hp'⟩)
 ·
  refine aG ?_
  refine W.ret (fin _ _ (FinOk.first 1 (.tmp rfl .nil) rfl ?_))
  rw [Pt.doPage_none h1]
  exact ⟨rfl, _, rfl, hp⟩
 ·
  refine aG ?_
  refine W.ret (fin _ _ (FinOk.first 1 (.tmp rfl .nil) rfl ?_))
  rw [Pt.doPage_some hj h1]
  exact ⟨rfl, _, rfl, hp'⟩
end Go.Proofs.YtfpghdcjdnifcaaGreat
namespace Go.Proofs.YtfpghdcjdnifcaaGreat
open Go Go.Sl Go.IntWalk
set_option maxHeartbeats 2000000
set_option maxRecDepth 20000
def inFr (p : Pt) (i : Int) : Prop := 0 ≤ i ∧ i < p.fs.length
instance (p : Pt) (i : Int) : Decidable (inFr p i) := by unfold inFr; infer_instance
def Pt.release (p : Pt) (i : Int) : Pt × Int := if ¬ inFr p i then (p, 1) else if (p.at_ i).pins = 0 then (⟨p.fs.set i.toNat Fr.zero, (p.forget i.toNat).tbl, p.hand⟩, 0) else (p, 5)
def Fr.clean (f : Fr) : Fr := ⟨f.used, false, f.ref, f.pins, f.page, f.b⟩
def Pt.clean (p : Pt) (i : Int) : Pt × Int := if ¬ inFr p i then (p, 1) else (p.setF i.toNat (p.at_ i).clean, 0)
def Pt.clear (p : Pt) : Pt := Pt.new p.fs.length
def dirtyFrom (fs : List Fr) (j : Nat) : List Int := match fs with
 | [] => []
 | f :: fs => if f.dirty = true then (j : Int) :: dirtyFrom fs (j + 1) else dirtyFrom fs (j + 1)
def Pt.dirty (p : Pt) : List Int := dirtyFrom p.fs 0
theorem dirtyFrom_snoc (f : Fr) : ∀ (fs : List Fr) (j : Nat), dirtyFrom (fs ++ [f]) j = dirtyFrom fs j ++ (if f.dirty = true then [((j + fs.length : Nat) : Int)] else [])
 | [], j => by simp [dirtyFrom]
 | g :: fs, j => by
  have ih := dirtyFrom_snoc f fs (j + 1)
  have e : j + 1 + fs.length = j + (fs.length + 1) := by omega
  simp only [List.cons_append, dirtyFrom, ih, List.length_cons, e]
  split <;> simp
theorem dirtyFrom_len : ∀ (fs : List Fr) (j : Nat), (dirtyFrom fs j).length ≤ fs.length
 | [], _ => by simp [dirtyFrom]
 | f :: fs, j => by
  have := dirtyFrom_len fs (j + 1)
  unfold dirtyFrom
  split <;> simp <;> omega
theorem Release_spec (p : Pt) (hpo : p.Ok) (b : Nat) (H : HL) (hp : PtAt p b H) (i : Int) : Ctr Tryz.prog 303 [.pointer (some ⟨b, 0, none⟩), .int .i64 i] [H] []
  (fun v L' => v = .int .i64 (p.release i).2 ∧ ∃ H', L' = [H'] ∧ PtAt (p.release i).1 b H') := by
 have hI := pin_spec p b H hp i
 by_cases hin : inFr p i
 ·
  obtain ⟨j, rfl⟩ : ∃ j : Nat, i = (j : Int) := ⟨i.toNat, by unfold inFr at hin; omega⟩
  have hj : j < p.fs.length := by unfold inFr at hin; omega
  have hin' : (0 ≤ (j : Int) ∧ (j : Int) < p.fs.length) := hin
  have hforget := forget_spec p hpo b H hp j hj
  have hsp := flat_split hj
  have hset := flat_set hj Fr.zero
  have hfo := hpo.1 _ (List.getElem_mem hj)
  have hat := Pt.at_nat hj
  have hA : (flat (p.fs.take j)).length = 0 + j * 37 := by rw [take_flat_len hpo.1 (Nat.le_of_lt hj)]; omega
  have hr : p.release (j : Int) = if p.fs[j].pins = 0 then (⟨p.fs.set j Fr.zero, (p.forget j).tbl, p.hand⟩, 0) else (p, 5) := by
   unfold Pt.release
   rw [if_neg (fun h => h hin), hat, Int.toNat_natCast]
  generalize p.fs[j] = f at hsp hfo hr
  have hz := Zero_spec f hfo (flat (p.fs.take j)) (flat (p.fs.drop (j + 1)))
  have hfr := FFree_spec f (flat (p.fs.take j)) (flat (p.fs.drop (j + 1)))
  refine Ctr.enter (n := 30) [.tmp 4] [(0, _), (1, _)] Tryz.func303 rfl rfl rfl (lb rfl) Tryz.call303 ⟨rfl, rfl, trivial⟩ ?_
  intro cx fin fin0
  refine aG ?_
  refine aC (o := hI) (h := ?_)
  rintro _ _ ⟨rfl, rfl⟩
  refine aG ?_
  refine aF ?_ (hb := by exact gd hin')
  obtain ⟨bf, bm, es, clock, rfl, hm⟩ := hp
  refine W.split 0 rfl ?_
  refine aG ?_
  repeat (first | refine gw ?_ | refine gN fun _ => ?_ | refine gB fun _ => ?_ | fail)
  refine aV (OpVal.ixSl tab_ok rfl rfl rfl rfl rfl hj) ?_
  rw [hsp]
  refine aC (o := hfr bf _ 328 hA) (h := ?_) (hro := by exact RoIn.own 1 rfl)
  rintro _ _ ⟨rfl, rfl⟩
  refine aG ?_
  rw [← hsp]
  by_cases h0 : f.pins = 0
  ·
   rw [if_pos h0] at hr
   refine aF ?_ (hb := by exact gd h0)
   refine W.group [0, 0, 0] rfl rfl ?_
   refine aG ?_
   refine aC (o := hforget) (h := ?_)
   rintro _ _ ⟨H2, rfl, hp2⟩
   refine aG ?_
   have hp3 : PtAtF p.fs (p.forget j).tbl p.hand b H2 := hp2
   obtain ⟨bf2, bm2, es2, clock2, rfl, hm2⟩ := hp3
   refine W.split 0 rfl ?_
   refine aG ?_
   repeat (first | refine gw ?_ | refine gN fun _ => ?_ | refine gB fun _ => ?_ | fail)
   refine aV (OpVal.ixSl tab_ok rfl rfl rfl rfl rfl hj) ?_
   rw [hsp]
   refine aC (o := hz bf2 _ 328 hA) (h := ?_)
   rintro _ _ rfl
   refine aG ?_
   rw [← hset]
   refine W.group [1, 0, 0] rfl rfl ?_
   refine W.ret (fin _ _ (FinOk.first 1 (.tmp rfl .nil) rfl ?_))
   rw [hr]
   refine ⟨rfl, _, rfl, bf2, bm2, es2, clock2, ?_, hm2⟩
   simp
  ·
   rw [if_neg h0] at hr
   refine aT ?_ (hb := by exact gd h0)
   refine W.group [0, 0, 0] rfl rfl ?_
   refine aG ?_
   refine W.ret (fin _ _ (FinOk.first 1 (.tmp rfl .nil) rfl ?_))
   rw [hr]
   exact ⟨rfl, _, rfl, bf, bm, es, clock, rfl, hm⟩
 ·
  have hin' : ¬ (0 ≤ i ∧ i < p.fs.length) := hin
  refine Ctr.enter (n := 30) [.tmp 4] [(0, _), (1, _)] Tryz.func303 rfl rfl rfl (lb rfl) Tryz.call303 ⟨rfl, rfl, trivial⟩ ?_
  intro cx fin fin0
  refine aG ?_
  refine aC (o := hI) (h := ?_)
  rintro _ _ ⟨rfl, rfl⟩
  refine aG ?_
  refine aT ?_ (hb := by exact gd hin')
  refine W.ret (fin _ _ (FinOk.first 1 (.tmp rfl .nil) rfl ?_))
  have : p.release i = (p, 1) := by unfold Pt.release; rw [if_pos hin]
  rw [this]
  exact ⟨rfl, _, rfl, hp⟩
theorem Clean_spec (p : Pt) (hpo : p.Ok) (b : Nat) (H : HL) (hp : PtAt p b H) (i : Int) : Ctr Tryz.prog 302 [.pointer (some ⟨b, 0, none⟩), .int .i64 i] [H] []
  (fun v L' => v = .int .i64 (p.clean i).2 ∧ ∃ H', L' = [H'] ∧ PtAt (p.clean i).1 b H') := by
 have hI := pin_spec p b H hp i
 by_cases hin : inFr p i
 ·
  obtain ⟨j, rfl⟩ : ∃ j : Nat, i = (j : Int) := ⟨i.toNat, by unfold inFr at hin; omega⟩
  have hj : j < p.fs.length := by unfold inFr at hin; omega
  have hin' : (0 ≤ (j : Int) ∧ (j : Int) < p.fs.length) := hin
  have hsp := flat_split hj
  have hset := flat_set hj p.fs[j].clean
  have hat := Pt.at_nat hj
  have hA : (flat (p.fs.take j)).length = 0 + j * 37 := by rw [take_flat_len hpo.1 (Nat.le_of_lt hj)]; omega
  have hr : p.clean (j : Int) = (p.setF j p.fs[j].clean, 0) := by
   unfold Pt.clean
   rw [if_neg (fun h => h hin), hat, Int.toNat_natCast]
  generalize p.fs[j] = f at hsp hset hr
  have hw : splice? (flat p.fs) (0 + j * 37 + 1) [.bool false] = some (flat (p.fs.set j f.clean)) := by rw [hsp, hset]; exact splice_mid hA (M := f.l) (o := 1) rfl
  refine Ctr.enter (n := 17) [.tmp 4] [(0, _), (1, _)] Tryz.func302 rfl rfl rfl (lb rfl) Tryz.call302 ⟨rfl, rfl, trivial⟩ ?_
  intro cx fin fin0
  refine aG ?_
  refine aC (o := hI) (h := ?_)
  rintro _ _ ⟨rfl, rfl⟩
  refine aG ?_
  refine aF ?_ (hb := by exact gd hin')
  obtain ⟨bf, bm, es, clock, rfl, hm⟩ := hp
  refine W.split 0 rfl ?_
  refine aG ?_
  repeat (first | refine gw ?_ | refine gN fun _ => ?_ | refine gB fun _ => ?_ | fail)
  refine aV (OpVal.ixSl tab_ok rfl rfl rfl rfl rfl hj) ?_
  refine W.store tab_ok rfl (Upd.there Upd.here) rfl rfl rfl rfl rfl hw (W.step tab_ok rfl rfl ?_)
  refine W.group [0, 0, 0] rfl rfl ?_
  refine W.ret (fin _ _ (FinOk.first 1 (.tmp rfl .nil) rfl ?_))
  rw [hr]
  refine ⟨rfl, _, rfl, bf, bm, es, clock, ?_, hm⟩
  simp [Pt.setF]
 ·
  have hin' : ¬ (0 ≤ i ∧ i < p.fs.length) := hin
  refine Ctr.enter (n := 17) [.tmp 4] [(0, _), (1, _)] Tryz.func302 rfl rfl rfl (lb rfl) Tryz.call302 ⟨rfl, rfl, trivial⟩ ?_
  intro cx fin fin0
  refine aG ?_
  refine aC (o := hI) (h := ?_)
  rintro _ _ ⟨rfl, rfl⟩
  refine aG ?_
  refine aT ?_ (hb := by exact gd hin')
  refine W.ret (fin _ _ (FinOk.first 1 (.tmp rfl .nil) rfl ?_))
  have : p.clean i = (p, 1) := by unfold Pt.clean; rw [if_pos hin]
  rw [this]
  exact ⟨rfl, _, rfl, hp⟩
theorem PDirty_spec (p : Pt) (hpo : p.Ok) (b : Nat) (H : HL) (hp : PtAt p b H) : Ctr Tryz.prog 356 [.pointer (some ⟨b, 0, none⟩)] [] H (fun v L' => ∃ a cap Hs, v = .slice a p.dirty.length cap ∧ L' = [Hs] ∧
  Own 1 3 (ints p.dirty) a p.dirty.length cap Hs) := by
 have hok := hpo.1
 have h64 := hpo.2.2
 obtain ⟨bf, bm, es, clock, rfl, hm⟩ := hp
 refine Ctr.enter (n := 25) [.tmp 2] [(0, _)] Tryz.func356 rfl rfl rfl (lb rfl) Tryz.call356 ⟨rfl, trivial⟩ ?_
 intro cx fin fin0
 refine aG ?_
 repeat (first | refine gw ?_ | refine gN fun _ => ?_ | refine gB fun _ => ?_ | fail)
 refine W.nilChunk ?_
 refine aLp (fun k ρ1 L1 => ∃ (j : Nat) (ds : List Int) (aa : Option Addr) (nn cc : Nat) (Hl : HL), j ≤ p.fs.length ∧ ds = dirtyFrom (p.fs.take j) 0 ∧ nn = ds.length ∧ Own 1 3 (ints ds) aa nn cc Hl ∧ k = p.fs.length - j ∧ ρ1 = [(11, .int .i64 (j : Int)), (10, .int .i64 (p.fs.length : Int)), (9, .slice (some ⟨bf, 0, none⟩) p.fs.length p.fs.length), (3, .slice aa nn cc)] ∧ L1 = [Hl]) (o := ⟨0, [], none, 0, 0, [], Nat.zero_le _, rfl, rfl, Own.nil _ _, rfl, rfl, rfl⟩) (h := ?_)
 rintro k ρ1 L1 ⟨j, ds, aa, nn, cc, Hl, hj, hds, hnn, hown, rfl, rfl, rfl⟩
 refine aG ?_
 by_cases hlt : j < p.fs.length
 ·
  refine aT ?_ (hb := by simp; omega)
  have hfo := hok _ (List.getElem_mem hlt)
  have hnx : dirtyFrom (p.fs.take (j + 1)) 0 = ds ++ (if p.fs[j].dirty = true then [(j : Int)] else []) := by
   rw [List.take_add_one, List.getElem?_eq_getElem hlt, Option.toList_some, dirtyFrom_snoc, ← hds, List.length_take, Nat.min_eq_left hj, Nat.zero_add]
  have hlen : ds.length ≤ 64 := by
   have := dirtyFrom_len (p.fs.take j) 0
   rw [← hds, List.length_take] at this
   omega
  have hld : ∀ (n : Nat) (cx : Cx) (ρ : Env) (L : List HL) (x : Operand) (ty : Nat) R, ev? ρ x = some (.pointer (some ⟨bf, 0 + j * 37, none⟩)) → At R L bf (.cells (flat p.fs).toArray 328 (0, 0)) → OpVal Tryz.prog n R cx (.load 328 x) ty ρ L p.fs[j].v := fun n cx ρ L x ty R hx hb => load_frame tab_ok rfl hok hlt hx hb
  generalize p.fs[j] = f at hfo hnx hld
  refine aV (OpVal.ixSl tab_ok rfl rfl rfl rfl rfl hlt) ?_
  refine aV (hld _ _ _ _ _ _ _ rfl (at_ro 1 rfl)) ?_
  refine W.new tab_ok rfl rfl (by decide) ?_
  intro bt
  refine aG ?_
  refine W.store tab_ok rfl Upd.here rfl rfl rfl (Fr.l_len hfo) (Fr.l_one f) (store_all hfo rfl) (W.step tab_ok rfl rfl ?_)
  refine aV (OpVal.load (v := .bool f.dirty) tab_ok rfl (at_own 0 rfl) rfl) ?_
  by_cases hd : f.dirty = true
  ·
   rw [if_pos hd] at hnx
   refine aT ?_ (hb := by exact hd)
   refine aSl (ps := [_]) ?_
   intro bq
   refine aG ?_
   refine aAp (hown) ?_
   rintro _ _ ⟨_, _, _, rfl, rfl, ho⟩
   refine aG ?_
   have ei : ints ds ++ [.int .i64 (j : Int)] = ints (ds ++ [(j : Int)]) := by simp [ints]
   rw [ei] at ho
   refine aV (OpVal.add rfl rfl (i64_in _ (by omega))) ?_
   refine aR (o := ⟨p.fs.length - (j + 1), by omega, j + 1, _, _, _, _, _, by omega, hnx.symm, by simp [hnn], ho, rfl, rfl, rfl⟩)
  ·
   rw [if_neg hd, List.append_nil] at hnx
   refine aF ?_ (hb := by simpa using hd)
   refine aV (OpVal.add rfl rfl (i64_in _ (by omega))) ?_
   refine aR (o := ⟨p.fs.length - (j + 1), by omega, j + 1, _, _, _, _, _, by omega, hnx.symm, hnn, hown, rfl, rfl, rfl⟩)
 ·
  refine aF ?_ (hb := by simp; omega)
  have hjn : j = p.fs.length := by omega
  subst hjn
  rw [List.take_length] at hds
  have hpd : p.dirty = ds := hds.symm
  refine W.ret (fin _ _ (FinOk.first 1 (.tmp rfl .nil) rfl ?_))
  rw [hpd, ← hnn]
  exact ⟨aa, cc, Hl, rfl, rfl, hown⟩
end Go.Proofs.YtfpghdcjdnifcaaGreat
namespace Go.Proofs.YtfpghdcjdnifcaaGreat
open Go Go.Sl Go.IntWalk
set_option maxHeartbeats 2000000
theorem Fr.zero_good : Fr.zero.Good := ⟨rfl, by decide, by decide, by intro x hx; simp [Fr.zero] at hx; omega⟩
theorem Pt.new_inv {n : Nat} (h1 : 1 ≤ n) (h2 : n ≤ 64) : (Pt.new n).Inv := by
 have hmem : ∀ f ∈ (Pt.new n).fs, f = Fr.zero := fun f hf => by simp [Pt.new] at hf; exact hf.2
 refine ⟨Pt.new_ok h1 h2, fun f hf => by rw [hmem f hf]; exact Fr.zero_good, ⟨by simp [Pt.new], by simp [Pt.new]; omega⟩, fun page i h => by simp [Pt.new, mget] at h, fun j h hu => ?_, fun f hf _ => hmem f hf, by simp [Pt.new]⟩
 have := hmem _ (List.getElem_mem h)
 rw [this] at hu
 cases hu
theorem mem_set' {α : Type} {l : List α} {j : Nat} {x y : α} (h : y ∈ l.set j x) : y = x ∨ y ∈ l := by
 rcases List.mem_or_eq_of_mem_set h with h | h
 · exact .inr h
 · exact .inl h
theorem Pt.setF_inv {p : Pt} (hi : p.Inv) {j : Nat} (hj : j < p.fs.length) {f : Fr} (hg : f.Good) (hu : f.used = p.fs[j].used) (hp : f.page = p.fs[j].page) (he : f.used = false → f = Fr.zero) : (p.setF j f).Inv := by
 have hlen : (p.setF j f).fs.length = p.fs.length := by simp [Pt.setF]
 have hsame : ∀ k (h : k < p.fs.length) (h2 : k < (p.setF j f).fs.length), (p.setF j f).fs[k].used = p.fs[k].used ∧ (p.setF j f).fs[k].page = p.fs[k].page := by
  intro k h h2
  simp only [Pt.setF, List.getElem_set]
  split
  · rename_i h3; subst h3; exact ⟨hu, hp⟩
  · exact ⟨rfl, rfl⟩
 refine ⟨⟨fun g hgm => ?_, by rw [hlen]; exact hi.ok.2.1, by rw [hlen]; exact hi.ok.2.2⟩, fun g hgm => ?_, by rw [hlen]; exact hi.hand, fun page i h => ?_, fun k h hk => ?_, fun g hgm hk => ?_, hi.nd⟩
 ·
  rcases mem_set' hgm with rfl | h
  · exact hg.1
  · exact hi.ok.1 g h
 ·
  rcases mem_set' hgm with rfl | h
  · exact hg
  · exact hi.good g h
 ·
  obtain ⟨k, hk, e, h1, h2⟩ := hi.tbl page i h
  have := hsame k hk (by omega)
  exact ⟨k, by omega, e, by rw [this.1, h1], by rw [this.2, h2]⟩
 ·
  have := hsame k (by omega) h
  rw [this.1] at hk
  rw [this.2]
  exact hi.inv k (by omega) hk
 ·
  rcases mem_set' hgm with rfl | h
  · exact he hk
  · exact hi.emp g h hk
theorem Pt.lay_inv {p : Pt} (hi : p.Inv) {j : Nat} (hj : j < p.fs.length) {f : Fr} (hg : f.Good) (he : f.used = false → f = Fr.zero) (hnew : f.used = true → ∀ k, mget p.tbl f.page = some k → k = (j : Int)) :
  (⟨p.fs.set j f, if f.used = true then mput (p.forget j).tbl f.page (j : Int) else (p.forget j).tbl, p.hand⟩ : Pt).Inv := by
 have hat := Pt.at_nat hj
 have hfg : ∀ y, mget (p.forget j).tbl y = if p.fs[j].used = true ∧ p.fs[j].page = y then none else mget p.tbl y := by
  intro y
  unfold Pt.forget
  rw [hat]
  simp only
  split
  ·
   rename_i h
   rw [mget_mdel hi.nd]
   by_cases h2 : p.fs[j].page = y
   · rw [if_pos h2, if_pos ⟨h, h2⟩]
   · rw [if_neg h2, if_neg (fun h3 => h2 h3.2)]
  ·
   rename_i h
   rw [if_neg (fun h3 => h h3.1)]
 have hfnd : ((p.forget j).tbl.map (·.1)).Nodup := by
  unfold Pt.forget
  simp only
  split
  · exact mdel_nd hi.nd _
  · exact hi.nd
 refine ⟨⟨fun g hgm => ?_, by simpa using hi.ok.2.1, by simpa using hi.ok.2.2⟩, fun g hgm => ?_, by simpa using hi.hand, fun page i h => ?_, fun k h hk => ?_, fun g hgm hk => ?_, ?_⟩
 ·
  rcases mem_set' hgm with rfl | h
  · exact hg.1
  · exact hi.ok.1 g h
 ·
  rcases mem_set' hgm with rfl | h
  · exact hg
  · exact hi.good g h
 ·
  have old : mget (p.forget j).tbl page = some i → ∃ k, ∃ _ : k < (p.fs.set j f).length, i = (k : Int) ∧ (p.fs.set j f)[k].used = true ∧ (p.fs.set j f)[k].page = page := by
   intro h
   rw [hfg] at h
   split at h
   · cases h
   ·
    rename_i hn
    obtain ⟨k, hk, e, h1, h2⟩ := hi.tbl page i h
    have hkj : j ≠ k := by rintro rfl; exact hn ⟨h1, h2⟩
    exact ⟨k, by simpa using hk, e, by rw [List.getElem_set_ne hkj]; exact h1, by rw [List.getElem_set_ne hkj]; exact h2⟩
  simp only at h
  split at h
  ·
   rename_i hu
   rw [mget_mput] at h
   split at h
   ·
    rename_i hpg
    cases h
    exact ⟨j, by simpa using hj, rfl, by simpa using hu, by simpa using hpg⟩
   · exact old h
  · exact old h
 ·
  simp only at hk ⊢
  have hkl : k < p.fs.length := by simpa using h
  by_cases hkj : j = k
  ·
   subst hkj
   simp only [List.getElem_set_self] at hk ⊢
   rw [if_pos hk, mget_mput, if_pos rfl]
  ·
   rw [List.getElem_set_ne hkj] at hk ⊢
   have h1 := hi.inv k hkl hk
   have h2 : mget (p.forget j).tbl p.fs[k].page = some (k : Int) := by
    rw [hfg, if_neg, h1]
    rintro ⟨h3, h4⟩
    have h5 := hi.inv j hj h3
    rw [h4, h1] at h5
    simp at h5
    omega
   split
   ·
    rename_i hu
    rw [mget_mput, if_neg, h2]
    intro h3
    have := hnew hu k (by rw [h3]; exact h1)
    exact hkj (by omega)
   · exact h2
 ·
  rcases mem_set' hgm with rfl | h
  · exact he hk
  · exact hi.emp g h hk
 ·
  simp only
  split
  · exact mput_nd hfnd _ _
  · exact hfnd
theorem Pt.load_inv {p : Pt} (hi : p.Inv) (i page : Int) {bs : List Int} (hb : u8ok bs) : (p.load i page bs).1.Inv := by
 unfold Pt.load
 split
 ·
  rename_i hm
  split
  ·
   rename_i hl
   unfold Pt.mayLoad at hm
   simp only [Bool.and_eq_true, decide_eq_true_eq] at hm
   obtain ⟨j, rfl⟩ : ∃ j : Nat, i = (j : Int) := ⟨i.toNat, by omega⟩
   have := Pt.lay_inv hi (j := j) (by omega) (f := Fr.load page bs) ⟨hl, by simp [Fr.load], by simp [Fr.load], hb⟩ (fun h => by cases h) (fun _ k hk => by
    have h2 := hm.2
    simp only [Fr.load] at hk
    rw [hk] at h2
    simpa using h2)
   simpa [Fr.load] using this
  · exact hi
 · exact hi
theorem Pt.release_inv {p : Pt} (hi : p.Inv) (i : Int) : (p.release i).1.Inv := by
 unfold Pt.release
 split
 · exact hi
 ·
  rename_i hin
  simp only [Decidable.not_not] at hin
  split
  ·
   unfold inFr at hin
   obtain ⟨j, rfl⟩ : ∃ j : Nat, i = (j : Int) := ⟨i.toNat, by omega⟩
   have := Pt.lay_inv hi (j := j) (by omega) (f := Fr.zero) Fr.zero_good (fun _ => rfl) (fun h => by cases h)
   simpa [Fr.zero] using this
  · exact hi
theorem Pt.clean_inv {p : Pt} (hi : p.Inv) (i : Int) : (p.clean i).1.Inv := by
 unfold Pt.clean
 split
 · exact hi
 ·
  rename_i hin
  simp only [Decidable.not_not] at hin
  unfold inFr at hin
  obtain ⟨j, rfl⟩ : ∃ j : Nat, i = (j : Int) := ⟨i.toNat, by omega⟩
  have hj : j < p.fs.length := by omega
  rw [Pt.at_nat hj, Int.toNat_natCast]
  have hg := hi.good _ (List.getElem_mem hj)
  refine Pt.setF_inv hi hj ⟨hg.1, hg.2⟩ rfl rfl (fun h => ?_)
  have := hi.emp _ (List.getElem_mem hj) h
  rw [this]
  rfl
def Keeps (g : Fr → Fr) : Prop := ∀ f : Fr, f.Good → (g f).Good ∧ (g f).used = f.used ∧ (g f).page = f.page
theorem Pt.doPage_inv {p : Pt} (hi : p.Inv) (page : Int) {g : Fr → Fr × Int} (hk : Keeps (fun f => (g f).1)) : (p.doPage page g).1.Inv := by
 cases hg : mget p.tbl page with
 | none => rw [Pt.doPage_none hg]; exact hi
 | some i =>
  obtain ⟨j, hj, rfl, hu, hpg⟩ := hi.tbl page i hg
  rw [Pt.doPage_some hj hg]
  obtain ⟨h1, h2, h3⟩ := hk _ (hi.good _ (List.getElem_mem hj))
  exact Pt.setF_inv hi hj h1 h2 h3 (fun h => by have h4 : (g p.fs[j]).1.used = false := h; rw [h2, hu] at h4; cases h4)
theorem Pt.get_inv {p : Pt} (hi : p.Inv) (page off n : Int) : (p.get page off n).1.Inv := by
 cases hg : mget p.tbl page with
 | none => rw [Pt.get_none hg]; exact hi
 | some i =>
  obtain ⟨j, hj, rfl, hu, hpg⟩ := hi.tbl page i hg
  rw [Pt.get_some hj hg]
  have h1 := hi.good _ (List.getElem_mem hj)
  have h2 : ((p.fs[j].get off n).1).Good ∧ (p.fs[j].get off n).1.used = p.fs[j].used ∧ (p.fs[j].get off n).1.page = p.fs[j].page := by
   unfold Fr.get
   split
   · exact ⟨h1, rfl, rfl⟩
   ·
    split
    · exact ⟨h1, rfl, rfl⟩
    · exact ⟨⟨h1.1, h1.2⟩, rfl, rfl⟩
  exact Pt.setF_inv hi hj h2.1 h2.2.1 h2.2.2 (fun h => by have h4 := h2.2.1; rw [h, hu] at h4; cases h4)
theorem pin_keeps : Keeps (fun f => f.pin.1) := by
 intro f h
 simp only [Fr.pin]
 split
 · exact ⟨h, rfl, rfl⟩
 ·
  split
  · exact ⟨h, rfl, rfl⟩
  ·
   rename_i h2
   exact ⟨⟨h.1, by have := h.2.1; simp only; omega, by simp only; omega, h.2.2.2⟩, rfl, rfl⟩
theorem unpin_keeps : Keeps (fun f => f.unpin.1) := by
 intro f h
 simp only [Fr.unpin]
 split
 · exact ⟨h, rfl, rfl⟩
 ·
  rename_i h2
  exact ⟨⟨h.1, by have := h.2.1; simp only; omega, by have := h.2.2.1; simp only; omega, h.2.2.2⟩, rfl, rfl⟩
theorem put_keeps (off : Int) {bs : List Int} (hb : u8ok bs) : Keeps (fun f => (f.put off bs).1) := by
 intro f h
 simp only [Fr.put]
 split
 · exact ⟨h, rfl, rfl⟩
 ·
  split
  · exact ⟨h, rfl, rfl⟩
  ·
   rename_i h2
   have h0 : fits 32 off bs.length = 0 := by simpa using h2
   have hb32 : f.b.length = 32 := h.1
   refine ⟨⟨?_, h.2.1, h.2.2.1, ?_⟩, rfl, rfl⟩
   ·
    show (putb f.b off bs).length = 32
    rw [putb_len (by rw [hb32]; exact h0), hb32]
   ·
    intro x hx
    simp only [putb, List.mem_append] at hx
    rcases hx with (hx | hx) | hx
    · exact h.2.2.2 x (List.mem_of_mem_take hx)
    · exact hb x hx
    · exact h.2.2.2 x (List.mem_of_mem_drop hx)
def Fl.Keeps (g f : Fl) : Prop := g.used = f.used ∧ g.dirty = f.dirty ∧ g.pins = f.pins ∧ (f.used = false → g = f)
theorem Fl.goes_keeps (f : Fl) : Fl.Keeps f.goes.1 f := by
 unfold Fl.goes
 split
 · exact ⟨rfl, rfl, rfl, fun _ => rfl⟩
 ·
  rename_i h
  split
  · exact ⟨rfl, rfl, rfl, fun h2 => absurd h2 h⟩
  · exact ⟨rfl, rfl, rfl, fun _ => rfl⟩
theorem Fl.Keeps.trans {a b c : Fl} (h : Fl.Keeps a b) (h2 : Fl.Keeps b c) : Fl.Keeps a c :=
 ⟨h.1.trans h2.1, h.2.1.trans h2.2.1, h.2.2.1.trans h2.2.2.1, fun h3 => by rw [h.2.2.2 (by rw [h2.1]; exact h3), h2.2.2.2 h3]⟩
theorem getD_eq {fs : List Fl} {i : Nat} (h : i < fs.length) : fs.getD i Fl.none = fs[i] := by rw [List.getD_eq_getElem?_getD, List.getElem?_eq_getElem h, Option.getD_some]
theorem turn_keeps (hand : Nat) : ∀ (m k : Nat) (fs : List Fl) (j : Nat) (h : j < fs.length) (h2 : j < (turnFrom hand m k fs).1.length), Fl.Keeps (turnFrom hand m k fs).1[j] fs[j]
 | 0, k, fs, j, h, h2 => ⟨rfl, rfl, rfl, fun _ => rfl⟩
 | m + 1, k, fs, j, h, h2 => by
  have hn : (hand + k) % fs.length < fs.length := Nat.mod_lt _ (by omega)
  have hset : ∀ (h3 : j < (fs.set ((hand + k) % fs.length) (fs.getD ((hand + k) % fs.length) Fl.none).goes.1).length), Fl.Keeps (fs.set ((hand + k) % fs.length) (fs.getD ((hand + k) % fs.length) Fl.none).goes.1)[j] fs[j] := by
   intro h3
   rw [List.getElem_set]
   split
   ·
    rename_i h4
    rw [getD_eq hn]
    have := Fl.goes_keeps fs[(hand + k) % fs.length]
    simpa [h4] using this
   · exact ⟨rfl, rfl, rfl, fun _ => rfl⟩
  have e : turnFrom hand (m + 1) k fs = if (fs.getD ((hand + k) % fs.length) Fl.none).goes.2 = true then (fs.set ((hand + k) % fs.length) (fs.getD ((hand + k) % fs.length) Fl.none).goes.1, some ((hand + k) % fs.length, k + 1))
   else turnFrom hand m (k + 1) (fs.set ((hand + k) % fs.length) (fs.getD ((hand + k) % fs.length) Fl.none).goes.1) := rfl
  have key : ∀ (r : List Fl × Option (Nat × Nat)) (_ : turnFrom hand (m + 1) k fs = r) (h2 : j < r.1.length), Fl.Keeps r.1[j] fs[j] := by
   intro r hr h2
   rw [e] at hr
   split at hr
   · subst hr; exact hset h2
   ·
    subst hr
    have h3 : j < (fs.set ((hand + k) % fs.length) (fs.getD ((hand + k) % fs.length) Fl.none).goes.1).length := by simpa using h
    exact (turn_keeps hand m (k + 1) _ j h3 h2).trans (hset h3)
  exact key _ rfl h2
theorem setAll_get : ∀ (fs : List Fr) (gs : List Fl) (j : Nat) (h : j < (setAll fs gs).length) (h1 : j < fs.length) (h2 : j < gs.length), (setAll fs gs)[j] = fs[j].setFl gs[j]
 | f :: fs, g :: gs, 0, _, _, _ => rfl
 | f :: fs, g :: gs, j + 1, h, h1, h2 => by
  simp only [setAll, List.getElem_cons_succ]
  exact setAll_get fs gs j (by simpa [setAll] using h) (by simpa using h1) (by simpa using h2)
 | [], _, _, _, h1, _ => by simp at h1
 | _ :: _, [], _, _, _, h2 => by simp at h2
theorem Pt.victim_inv {p : Pt} (hi : p.Inv) : p.victim.1.Inv := by
 obtain ⟨h, hh⟩ : ∃ h : Nat, p.hand = (h : Int) := ⟨p.hand.toNat, by have := hi.hand; omega⟩
 have hlen : (p.victim.1).fs.length = p.fs.length := setAll_len _ _
 have hgl : ((turnFrom p.hand.toNat (2 * p.fs.length) 0 (p.fs.map Fr.fl)).1).length = p.fs.length := by rw [turnFrom_len]; simp
 have hget : ∀ j (h1 : j < p.fs.length) (h2 : j < p.victim.1.fs.length), ∃ g : Fl, Fl.Keeps g p.fs[j].fl ∧ p.victim.1.fs[j] = p.fs[j].setFl g := by
  intro j h1 h2
  refine ⟨(turnFrom p.hand.toNat (2 * p.fs.length) 0 (p.fs.map Fr.fl)).1[j]'(by omega), ?_, setAll_get _ _ j h2 h1 (by omega)⟩
  have := turn_keeps p.hand.toNat (2 * p.fs.length) 0 (p.fs.map Fr.fl) j (by simpa using h1) (by omega)
  simpa using this
 have hmem : ∀ f ∈ p.victim.1.fs, ∃ (j : Nat) (h1 : j < p.fs.length) (g : Fl), Fl.Keeps g p.fs[j].fl ∧ f = p.fs[j].setFl g := by
  intro f hf
  obtain ⟨j, hj, rfl⟩ := List.getElem_of_mem hf
  obtain ⟨g, h1, h2⟩ := hget j (by omega) hj
  exact ⟨j, by omega, g, h1, h2⟩
 refine ⟨⟨fun f hf => ?_, by rw [hlen]; exact hi.ok.2.1, by rw [hlen]; exact hi.ok.2.2⟩, fun f hf => ?_, ?_, fun page i hg => ?_, fun j hj hu => ?_, fun f hf hu => ?_, hi.nd⟩
 ·
  obtain ⟨j, hj, g, h1, rfl⟩ := hmem f hf
  exact Fr.setFl_ok (hi.ok.1 _ (List.getElem_mem hj)) g
 ·
  obtain ⟨j, hj, g, h1, rfl⟩ := hmem f hf
  have := hi.good _ (List.getElem_mem hj)
  refine ⟨this.1, ?_, ?_, this.2.2.2⟩
  ·
   show 0 ≤ g.pins
   rw [h1.2.2.1]; exact this.2.1
  ·
   show g.pins ≤ 100
   rw [h1.2.2.1]; exact this.2.2.1
 ·
  rw [hlen]
  have h0 := hi.ok.2.1
  unfold Pt.victim
  simp only
  split
  ·
   rename_i i q _
   have := Nat.mod_lt (i + 1) (show 0 < p.fs.length by omega)
   omega
  · exact hi.hand
 ·
  obtain ⟨j, hj, e, h1, h2⟩ := hi.tbl page i hg
  obtain ⟨g, h3, h4⟩ := hget j hj (by omega)
  refine ⟨j, by omega, e, ?_, ?_⟩
  · rw [h4]; show g.used = true; rw [h3.1]; exact h1
  · rw [h4]; exact h2
 ·
  obtain ⟨g, h3, h4⟩ := hget j (by omega) hj
  rw [h4] at hu ⊢
  have hu2 : g.used = true := hu
  rw [h3.1] at hu2
  exact hi.inv j (by omega) hu2
 ·
  obtain ⟨j, hj, g, h1, rfl⟩ := hmem f hf
  have hu2 : g.used = false := hu
  rw [h1.1] at hu2
  have h3 := h1.2.2.2 hu2
  have h4 := hi.emp _ (List.getElem_mem hj) hu2
  rw [h3]
  exact h4
def zeros : List Int := List.replicate 32 0
theorem zeros_ok : u8ok zeros := by intro x hx; simp [zeros] at hx; omega
end Go.Proofs.YtfpghdcjdnifcaaGreat
namespace Go.Proofs.YtfpghdcjdnifcaaGreat
open Go Go.Sl Go.IntWalk
set_option maxHeartbeats 4000000
set_option maxRecDepth 20000
def Fr.dl (f : Fr) : List Value := [.bool f.used, .bool f.dirty, .bool f.ref, .int .i64 f.pins, .int .i64 f.page, .string (bstr f.b)]
def Fr.dv (f : Fr) : Value := .agg f.dl.toArray
end Go.Proofs.YtfpghdcjdnifcaaGreat
namespace Go.Proofs.YtfpghdcjdnifcaaGreat
set_option linter.unusedVariables false
open Go Go.Sl Go.IntWalk
set_option maxHeartbeats 4000000
set_option maxRecDepth 20000
def dflat (fs : List Fr) : List Value := fs.flatMap Fr.dl
def DocIn (fs : List Fr) (hand : Int) (v : Value) (D : HL) : Prop := ∃ a cap ro, v = .agg #[.slice a fs.length cap, .int .i64 hand] ∧ RoSl 6 (dflat fs) a fs.length ro ∧ ∀ p ∈ ro, p ∈ D
theorem DocIn.mono {fs : List Fr} {hand : Int} {v : Value} {D D' : HL} (h : DocIn fs hand v D) (hs : ∀ p ∈ D, p ∈ D') : DocIn fs hand v D' := by
 obtain ⟨a, cap, ro, h1, h2, h3⟩ := h
 exact ⟨a, cap, ro, h1, h2, fun p hp => hs p (h3 p hp)⟩
theorem DocIn.own {fs : List Fr} {hand : Int} {a : Option Addr} {cap : Nat} {H : HL} {e : Nat} (h : Own 6 e (dflat fs) a fs.length cap H) : DocIn fs hand (.agg #[.slice a fs.length cap, .int .i64 hand]) H :=
 ⟨a, cap, H, rfl, Own.roSl h, fun p hp => hp⟩
end Go.Proofs.YtfpghdcjdnifcaaGreat
namespace Go.Proofs.YtfpghdcjdnifcaaGreat
open Go Go.Sl Go.IntWalk
set_option maxHeartbeats 4000000
set_option maxRecDepth 20000
end Go.Proofs.YtfpghdcjdnifcaaGreat
namespace Go.Proofs.YtfpghdcjdnifcaaGreat
open Go Go.Sl Go.IntWalk
set_option maxHeartbeats 4000000
set_option maxRecDepth 20000
end Go.Proofs.YtfpghdcjdnifcaaGreat
namespace Go.Proofs.YtfpghdcjdnifcaaGreat
open Go Go.Sl Go.IntWalk
set_option maxHeartbeats 4000000
set_option maxRecDepth 20000
theorem getD_set_eq {fs : List Fl} {c : Nat} {g : Fl} (h : c < fs.length) : (fs.set c g).getD c Fl.none = g := by
 rw [List.getD_eq_getElem?_getD, List.getElem?_set_self h, Option.getD_some]
end Go.Proofs.YtfpghdcjdnifcaaGreat
namespace Go.Proofs.YtfpghdcjdnifcaaGreat
open Go Go.Sl Go.IntWalk
set_option maxHeartbeats 8000000
set_option maxRecDepth 20000
theorem OpVal.whole {P : Program} {n : Nat} {R : HL} {cx : Cx} {ρ : Env} {L : List HL} {T : Tab} (hT : TabOk P T) {t e ty : TypeId} {x : Operand} {b off k m : Nat} {ag : Bool} (hx : ev? ρ x = some (.pointer (some ⟨b, off, none⟩))) (ht : look? T.ars t = some (k, e)) (hz : look? T.tys e = some (ag, m)) :
  OpVal P n R cx (.slice t x none none none) ty ρ L (.slice (some ⟨b, off, none⟩) k k) := by
 refine ⟨fun oo a w ho hty hf hs => ?_⟩
 have hu := hT.ars _ (look?_mem ht)
 have hz' := (hT.tys _ (look?_mem hz)).2
 unfold execOp; rw [ho]
 simp [Instr.sliceAt, Instr.sliceBounds, underlying, hu, hf.ev hx, hz' w, Addr.add_none', Instr.sureAddr]
theorem own_roT (b : Nat) (bs : List Int) (e : Nat) : RoSl 1 (u8s bs) (some ⟨b, 0, none⟩) bs.length [(b, .cells (u8s bs).toArray e (0, 0))] :=
 ⟨by rw [u8s_len, Nat.mul_one], .inr ⟨b, 0, _, _, _, rfl, rfl, by rw [u8s_len]; omega, by rw [List.drop_zero]; exact List.take_of_length_le (by rw [u8s_len]; omega)⟩⟩
theorem FBytes_spec (f : Fr) (hf : f.Ok) (b : Nat) : Ctr Tryz.prog 237 [.pointer (some ⟨b, 0, none⟩)] [] [(b, .cells f.l.toArray 328 (0, 0))]
  (fun v L' => ∃ c, v = .slice (some ⟨c, 0, none⟩) 32 32 ∧ L' = [[(c, .cells (u8s f.b).toArray 326 (0, 0))]]) := by
 have h32 : f.b.length = 32 := hf
 have hs : seg? f.l 5 32 = some (u8s f.b) := by rw [u8s_map]; exact seg_bytes hf
 have hl32 : (u8s f.b).length = 32 := by rw [u8s_len, h32]
 refine Ctr.enter (n := 9) [.tmp 2] [(0, _)] Tryz.func237 rfl rfl rfl (lb rfl) Tryz.call237 ⟨rfl, trivial⟩ ?_
 intro cx fin fin0
 refine aG ?_
 refine aV (OpVal.loadN ty_326.1 ty_326.2 rfl (at_ro 0 rfl) hs) ?_
 refine W.new tab_ok rfl rfl (by exact lb rfl) ?_
 intro c
 refine aG ?_
 refine W.store tab_ok rfl Upd.here rfl rfl rfl hl32 (u8s_one _) (splice_all (by rw [hl32]; rfl)) (W.step tab_ok rfl rfl ?_)
 refine aV (OpVal.whole tab_ok rfl rfl rfl) ?_
 refine W.ret (fin _ _ (FinOk.first 1 (.tmp rfl .nil) rfl ?_))
 exact ⟨c, rfl, rfl⟩
end Go.Proofs.YtfpghdcjdnifcaaGreat
