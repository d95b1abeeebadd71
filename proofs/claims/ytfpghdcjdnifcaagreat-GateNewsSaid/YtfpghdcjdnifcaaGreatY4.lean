/-
  The walks of this claim and the rules that they use, part four: each theorem is a contract of one function, or what such a proof asks.
-/
import Derived.Test.YtfpghdcjdnifcaaGreatY3
import Derived.OpenShut
import Derived.ChangeArms
import Derived.ChangeMaps5
namespace Go.Sl
set_option linter.unusedVariables false
open Go Go.RowKit Go.ChangeShapes Go.WideShapes Go.Deep
theorem wf_i64 {a : Int} (h : (Lit.int .i64 a).wf = true) : i64s a := by
 simp only [Lit.wf, Bool.and_eq_true, decide_eq_true_eq] at h
 exact h
section
variable {H : Type} {enc : TypeId × Value → H} {P : Program} {w : World} {spare : Nat → Bool} {held : Bool} {X Y : Type}
structure Opens (enc : TypeId × Value → H) (P : Program) (w : World) (spare : Nat → Bool) (held : Bool) (t : TypeId) (m : Nat) (f : X → List Value) (Ok : X → Prop) : Prop where
 len : ∀ x, (f x).length = m
 cells : P.cellsOf t = m
 go : ∀ (fuel : Nat) (cs : List Value) (y : DataW H × List MemPlace), DataW.trod enc P w 0 spare held fuel t cs = some y → ∃ x, cs = f x ∧ Ok x
theorem Opens.int {t : TypeId} {kk : IntKind} {Ok : Int → Prop} (ht : P.underlying t = some (.int kk)) (hc : P.cellsOf t = 1) (hw : ∀ i, (Lit.int kk i).wf = true → Ok i) :
  Opens enc P w spare held t 1 (fun i => [Value.int kk i]) Ok :=
 ⟨fun _ => rfl, hc, fun _ _ _ h => by obtain ⟨i, rfl, _, hwf⟩ := DataW.trod_int ht h; exact ⟨i, rfl, hw i hwf⟩⟩
theorem Opens.bool {t : TypeId} (ht : P.underlying t = some .bool) (hc : P.cellsOf t = 1) : Opens enc P w spare held t 1 (fun b => [Value.bool b]) (fun _ => True) :=
 ⟨fun _ => rfl, hc, fun _ _ _ h => by obtain ⟨i, rfl, _⟩ := DataW.trod_bool ht h; exact ⟨i, rfl, trivial⟩⟩
theorem Opens.imp {t : TypeId} {m : Nat} {f f' : X → List Value} {Ok Ok' : X → Prop} (h : Opens enc P w spare held t m f Ok) (hf : ∀ x, f x = f' x) (hok : ∀ x, Ok x → Ok' x) : Opens enc P w spare held t m f' Ok' :=
 ⟨fun x => by rw [← hf]; exact h.len x, h.cells, fun fuel cs y hy => by obtain ⟨x, e, o⟩ := h.go fuel cs y hy; exact ⟨x, by rw [← hf]; exact e, hok x o⟩⟩
def SlD.l (s : SlD X) : List Value := [.slice s.a s.xs.length s.cap]
structure SlD.Ok (w : World) (m : Nat) (f : X → List Value) (okx : X → Prop) (s : SlD X) : Prop where
 ro : RoSl m (s.xs.flatMap f) s.a s.xs.length s.ro
 mem : ∀ p ∈ s.ro, w.heap[p.1]? = some p.2
 all : ∀ x ∈ s.xs, okx x
 cap : s.xs.length ≤ s.cap
 max : s.cap ≤ maxLen
theorem Opens.sl {t e : TypeId} {m : Nat} {f : X → List Value} {Ok : X → Prop} (he : Opens enc P w spare held e m f Ok) (hm : 0 < m) (ht : P.underlying t = some (.slice e)) (hct : P.cellsOf t = 1) :
  Opens enc P w spare held t 1 SlD.l (SlD.Ok w m f Ok) := by
 refine ⟨fun _ => rfl, hct, fun fuel cs y h => ?_⟩
 have hf := he.len
 have hC := he.cells
 rcases open_slice ht h with ⟨hcs, _⟩ | ⟨a', len, cap, m', n', D, Pl, hcs, _, hlc, hcm, hmm, _, hel⟩
 · exact ⟨⟨none, 0, [], []⟩, hcs, ⟨by simp, .inl ⟨rfl, rfl⟩⟩, fun _ h => (by cases h), fun _ h => (by cases h), Nat.le_refl _, by simp [maxLen]⟩
 ·
  have hml : len ≤ m' := by rw [hmm]; split <;> omega
  rw [hC] at hel
  have hel2 : ∀ i, i < len → ∃ x, (∀ j, j < m → w.cell? (a'.add (i * m + j)) = (f x)[j]?) ∧ Ok x := by
   intro i hi
   obtain ⟨cs', h1, h2⟩ := hel i (by omega)
   obtain ⟨x, rfl, hx⟩ := he.go _ _ _ h2
   obtain ⟨_, _, h3⟩ := World.cells?_some h1
   refine ⟨x, fun j hj => ?_, hx⟩
   rw [← h3 j hj, Go.Deep.add_add]
  obtain ⟨xs, hxl, hxs⟩ := choose_list _ len hel2
  by_cases h0 : len = 0
  ·
   subst h0
   have : xs = [] := List.eq_nil_of_length_eq_zero hxl
   subst this
   exact ⟨⟨some a', cap, [], []⟩, hcs, ⟨by simp, .inl ⟨rfl, rfl⟩⟩, fun _ h => (by cases h), fun _ h => (by cases h), Nat.zero_le _, hcm⟩
  ·
   subst hxl
   have c0 := (hxs 0 (by omega)).1 0 hm
   simp only [Nat.zero_mul, Nat.zero_add] at c0
   have hlt0 : 0 < (f (xs[0]'(by omega))).length := by rw [hf]; exact hm
   rw [List.getElem?_eq_getElem hlt0] at c0
   obtain ⟨c, e', fr, hb, hsp, hc0⟩ := block_of_cell c0
   have hadd0 : a'.add 0 = a' := by simp [Addr.add]
   rw [hadd0] at hb hsp hc0
   obtain ⟨b, off, sp⟩ := a'
   simp only at hsp hb hc0
   subst hsp
   have hcell : ∀ i (hi : i < xs.length), ∀ j, j < m → c.toList[off + (i * m + j)]? = (f xs[i])[j]? := by
    intro i hi j hj
    have := (hxs i hi).1 j hj
    rw [Go.Sl.Addr.add_none', cell_of_row w b _ c e' fr hb] at this
    rw [← this]; simp
   have hlen : off + xs.length * m ≤ c.toList.length := by
    have h1 := hcell (xs.length - 1) (by omega) (m - 1) (by omega)
    have hfl : m - 1 < (f (xs[xs.length - 1]'(by omega))).length := by rw [hf]; omega
    rw [List.getElem?_eq_getElem hfl] at h1
    have h2 := (List.getElem?_eq_some_iff.1 h1).1
    have h3 : xs.length * m = (xs.length - 1) * m + m := by
     rw [← Nat.succ_mul]; congr 1; omega
    omega
   refine ⟨⟨some ⟨b, off, none⟩, cap, xs, [(b, .cells c e' fr)]⟩, hcs, ⟨flatMap_len f m hf xs, .inr ⟨b, off, c.toList, e', fr, rfl, by simp, hlen, ?_⟩⟩, ?_, ?_, hlc, hcm⟩
   ·
    refine flatMap_of_segs f m hf xs _ (by simp at hlen ⊢; omega) (fun i hi => ?_)
    apply List.ext_getElem?
    intro j
    by_cases hj : j < m
    ·
     have h1 : i * m + m ≤ xs.length * m := by rw [← Nat.succ_mul]; exact Nat.mul_le_mul_right m hi
     dsimp only
     rw [List.getElem?_take, if_pos hj, List.getElem?_drop, List.getElem?_take, if_pos (by omega), List.getElem?_drop, hcell i hi j hj]
    · rw [List.getElem?_eq_none (by simp; omega), List.getElem?_eq_none (by rw [hf]; omega)]
   ·
    intro p hp
    simp at hp
    subst hp
    exact hb
   ·
    intro x hx
    obtain ⟨i, hi, rfl⟩ := List.getElem_of_mem hx
    exact (hxs i hi).2
structure OpenF (enc : TypeId × Value → H) (P : Program) (w : World) (spare : Nat → Bool) (held : Bool) (fs : List (TypeId × Nat)) (m : Nat) (f : X → List Value) (Ok : X → Prop) : Prop where
 len : ∀ x, (f x).length = m
 go : ∀ (cs : List Value), cs.length = m → (∀ (i o : Nat) (t : TypeId) (k : Nat), fs[i]? = some (t, k) → o = ((fs.take i).map (·.2)).sum → ∃ n y, DataW.trod enc P w 0 spare held n t ((cs.drop o).take k) = some y) → ∃ x, cs = f x ∧ Ok x
theorem OpenF.nil : OpenF enc P w spare held [] 0 (fun _ : Unit => []) (fun _ => True) := ⟨fun _ => rfl, fun cs h _ => ⟨(), List.eq_nil_of_length_eq_zero h, trivial⟩⟩
theorem OpenF.cons {t : TypeId} {k m : Nat} {fs : List (TypeId × Nat)} {f : X → List Value} {g : Y → List Value} {Ok : X → Prop} {Ok' : Y → Prop} (h1 : Opens enc P w spare held t k f Ok) (h2 : OpenF enc P w spare held fs m g Ok') :
  OpenF enc P w spare held ((t, k) :: fs) (k + m) (fun q : X × Y => f q.1 ++ g q.2) (fun q => Ok q.1 ∧ Ok' q.2) := by
 refine ⟨fun q => by rw [List.length_append, h1.len, h2.len], fun cs hl hg => ?_⟩
 obtain ⟨n, y, h3⟩ := hg 0 0 t k rfl rfl
 obtain ⟨x, e1, o1⟩ := h1.go _ _ _ h3
 obtain ⟨z, e2, o2⟩ := h2.go (cs.drop k) (by rw [List.length_drop]; omega) (fun i o t' k' hi ho => by
  obtain ⟨n', y', h4⟩ := hg (i + 1) (k + o) t' k' (by simpa using hi) (by simp [ho])
  exact ⟨n', y', by rw [List.drop_drop]; exact h4⟩)
 refine ⟨(x, z), ?_, o1, o2⟩
 simp only [List.drop_zero] at e1
 rw [← e1, ← e2, List.take_append_drop]
def sums : Nat → List (TypeId × Nat) → List (TypeId × Nat)
 | _, [] => []
 | o, (t, k) :: r => (t, o) :: sums (o + k) r
theorem sums_get : ∀ (fs : List (TypeId × Nat)) (o i : Nat) (t : TypeId) (k : Nat), fs[i]? = some (t, k) → (sums o fs)[i]? = some (t, o + ((fs.take i).map (·.2)).sum)
 | (t', k') :: r, o, 0, t, k, h => by simp at h; obtain ⟨rfl, rfl⟩ := h; simp [sums]
 | (t', k') :: r, o, i + 1, t, k, h => by
  have := sums_get r (o + k') i t k (by simpa using h)
  simp only [sums, List.getElem?_cons_succ, this, List.take_succ_cons, List.map_cons, List.sum_cons]
  congr 2
  omega
 | [], _, _, _, _, h => by simp at h
theorem Opens.st {t : TypeId} {fa : Array Field} {fs : List (TypeId × Nat)} {m : Nat} {f : X → List Value} {Ok : X → Prop} (h : OpenF enc P w spare held fs m f Ok) (ht : P.underlying t = some (.struct fa))
  (hf : fa.toList.map (fun f => (f.type, f.offset)) = sums 0 fs) (hc : P.cellsOf t = m) (hcs : ∀ q ∈ fs, P.cellsOf q.1 = q.2) : Opens enc P w spare held t m f Ok := by
 refine ⟨h.len, hc, fun fuel cs y hy => ?_⟩
 obtain ⟨xs, n, _, _, hlen, hxl, hg⟩ := DataW.trod_struct ht hy
 refine h.go cs (by rw [hlen, hc]) (fun i o t' k hi ho => ?_)
 have h1 := sums_get fs 0 i t' k hi
 rw [← hf, List.getElem?_map, Option.map_eq_some_iff] at h1
 obtain ⟨fd, h2, h3⟩ := h1
 simp only [Prod.mk.injEq] at h3
 have h2' : fa[i]? = some fd := by simpa using h2
 have h4 := hg i fd h2'
 have hk := hcs (t', k) (List.mem_of_getElem? hi)
 simp only at hk
 rw [h3.1, h3.2, hk, Nat.zero_add, ← ho] at h4
 have hil : i < xs.length := by
  rw [hxl]
  exact (Array.getElem?_eq_some_iff.1 h2').1
 rw [List.getElem?_eq_getElem hil] at h4
 exact ⟨n, _, h4⟩
theorem Opens.argSt {t : TypeId} {fa : Array Field} {m : Nat} {f : X → List Value} {Ok : X → Prop} (ho : Opens enc P w spare held t m f Ok) (ht : P.underlying t = some (.struct fa))
  {r : Reach} {b0 : Nat} {v : Value} {d : DataW H} {ps : List MemPlace} (hok : Value.okWide P w r b0 t v) (h : DataW.Trod enc P w 0 spare held t v d ps) : ∃ x : X, v = .agg (f x).toArray ∧ Ok x := by
 obtain ⟨cs, rfl, _⟩ := okWide_struct ht hok
 obtain ⟨fuel, hf⟩ := h
 obtain ⟨x, e1, e2⟩ := ho.go _ _ _ hf
 refine ⟨x, ?_, e2⟩
 simp only [Value.cells] at e1
 rw [← e1]
end
end Go.Sl
namespace Go.Proofs.YtfpghdcjdnifcaaGreat
open Go Go.Sl Go.IntWalk
set_option maxHeartbeats 8000000
set_option maxRecDepth 20000
structure QD where
 op : Int
 page : Int
 off : Int
 len : Int
 b : SlD Int
def QD.l (o : QD) : List Value := [.int .i64 o.op, .int .i64 o.page, .int .i64 o.off, .int .i64 o.len, .slice o.b.a o.b.xs.length o.b.cap]
structure QD.Ok (o : QD) : Prop where
 inn : Rq.In ⟨o.op, o.page, o.off, o.len, o.b.xs⟩
 ro : RoSl 1 (u8s o.b.xs) o.b.a o.b.xs.length o.b.ro
 u8 : u8ok o.b.xs
def QD.q (o : QD) : Rq := ⟨o.op, o.page, o.off, o.len, o.b.xs⟩
def QD.of (q : Int × Int × Int × Int × SlD Int × Unit) : QD := ⟨q.1, q.2.1, q.2.2.1, q.2.2.2.1, q.2.2.2.2.1⟩
section
variable {H : Type} {enc : TypeId × Value → H} {w : World} {spare : Nat → Bool} {held : Bool}
end
end Go.Proofs.YtfpghdcjdnifcaaGreat
namespace Go.Proofs.YtfpghdcjdnifcaaGreat
open Go Go.Sl Go.IntWalk
set_option maxHeartbeats 8000000
set_option maxRecDepth 20000
end Go.Proofs.YtfpghdcjdnifcaaGreat
namespace Go.Proofs.YtfpghdcjdnifcaaGreat
open Go Go.Sl Go.IntWalk
set_option maxHeartbeats 8000000
set_option maxRecDepth 20000
set_option linter.unusedVariables false
end Go.Proofs.YtfpghdcjdnifcaaGreat
namespace Go.Proofs.YtfpghdcjdnifcaaGreat
open Go Go.Sl Go.IntWalk
set_option maxHeartbeats 8000000
set_option maxRecDepth 20000
set_option linter.unusedVariables false
theorem zip_set {α β : Type} : ∀ (xs : List α) (ys : List β) (i : Nat) (a : α) (y : β), ys[i]? = some y → (xs.set i a).zip ys = (xs.zip ys).set i (a, y)
 | [], ys, i, a, y, h => by simp
 | x :: xs, [], i, a, y, h => by simp at h
 | x :: xs, z :: ys, 0, a, y, h => by
  simp only [List.getElem?_cons_zero, Option.some.injEq] at h
  subst h
  rfl
 | x :: xs, z :: ys, i + 1, a, y, h => by
  simp only [List.set_cons_succ, List.zip_cons_cons]
  rw [zip_set xs ys i a y (by simpa using h)]
theorem setT_len (p : Pl) (i : Int) (t : Tn) : (p.setT i t).l.length = p.l.length := by simp [Pl.setT]
section
variable {p : Pl} {al : Option Addr} {bts bps bfs bks : List Nat} {Ho Ht Hp Hf Hk : HL}
theorem PlT.lens (h : PlT p al bts bps bfs bks Ho Ht Hp Hf Hk) : bts.length = p.l.length ∧ bps.length = p.l.length ∧ bfs.length = p.l.length ∧ bks.length = p.l.length := by
 have h2 := h.ps.len
 have h1 := h.ts.len
 have h3 := h.fs.len
 have h4 := h.ks.len
 simp only [List.length_zip, List.length_map] at h1 h2 h3 h4
 omega
theorem PlT.own_at (h : PlT p al bts bps bfs bks Ho Ht Hp Hf Hk) {i : Nat} (hi : i < p.l.length) : ∃ bt bf bk bx ox lx ex frx, bts[i]? = some bt ∧ bfs[i]? = some bf ∧ bks[i]? = some bk ∧ al = some ⟨bx, ox, none⟩ ∧ Ho = [(bx, .cells (List.toArray lx) ex frx)] ∧
  lx[ox + i * 3 + 0]? = some (.pointer (some ⟨bt, 0, none⟩)) ∧ seg? lx (ox + i * 3) 3 = some (ownL (bt, bf, bk)) := by
 obtain ⟨h1, h2, h3, h4⟩ := h.lens
 have hz : (bts.zip (bfs.zip bks)).length = p.l.length := by simp only [List.length_zip]; omega
 have ho := h.own
 unfold Owns at ho
 rw [← hz] at ho
 obtain ⟨bx, ox, lx, ex, frx, e1, e2, e3, e4⟩ := RoSl.at (f := ownL) (m := 3) (fun _ => rfl) ho (show i < (bts.zip (bfs.zip bks)).length by omega)
 have hg : (bts.zip (bfs.zip bks))[i] = (bts[i], (bfs[i], bks[i])) := by simp
 rw [hg] at e3 e4
 exact ⟨bts[i], bfs[i], bks[i], bx, ox, lx, ex, frx, List.getElem?_eq_getElem _, List.getElem?_eq_getElem _, List.getElem?_eq_getElem _, e1, e2, e4 0 (by decide), e3⟩
theorem PlT.cut (h : PlT p al bts bps bfs bks Ho Ht Hp Hf Hk) {i : Nat} (hi : i < p.l.length) : ∃ bt bp T1 Ti T2 P1 Pi P2, bts[i]? = some bt ∧ bps[i]? = some bp ∧ Ht = T1 ++ (Ti ++ T2) ∧ Hp = P1 ++ (Pi ++ P2) ∧ TAt p.c.dp.toNat (p.tn i).t bt bp Ti ∧ PtAt (p.tn i).t.p bp Pi ∧
  ∀ t' Ti' Pi', TAt p.c.dp.toNat t' bt bp Ti' → PtAt t'.p bp Pi' → PlT (p.setT i t') al bts bps bfs bks Ho (T1 ++ (Ti' ++ T2)) (P1 ++ (Pi' ++ P2)) Hf Hk := by
 obtain ⟨h1, h2, h3, h4⟩ := h.lens
 rw [Pl.tn_get hi]
 have hbp : bps[i]? = some bps[i] := List.getElem?_eq_getElem _
 obtain ⟨bt, T1, Ti, T2, t1, t2, t3, t4⟩ := h.ts.split (i := i) (by simp only [List.length_zip, List.length_map]; omega)
 obtain ⟨bp, P1, Pi, P2, p1, p2, p3, p4⟩ := h.ps.split (i := i) (by simpa using hi)
 rw [hbp] at p1
 cases p1
 refine ⟨bt, bps[i], T1, Ti, T2, P1, Pi, P2, t1, hbp, t2, p2, by simpa using t3, by simpa using p3, fun t' Ti' Pi' g1 g2 => ?_⟩
 have hset : ∀ {β : Type} (f : Te → β), (p.setT i t').l.map f = (p.l.map f).set i (f { p.tn i with t := t' }) := fun f => by
  unfold Pl.setT
  simp only [Int.toNat_natCast]
  rw [List.map_set]
 have hsame : ∀ {β : Type} (f : Te → β), f { p.tn i with t := t' } = f (p.l[i]) → (p.setT i t').l.map f = p.l.map f := fun f hf => by
  rw [hset, hf]
  refine List.ext_getElem (by simp) fun k a b => ?_
  rw [List.getElem_set]
  split
  · rename_i hk; subst hk; simp
  · rfl
 refine ⟨?_, ?_, ?_, ?_, ?_⟩
 · rw [setT_len]; exact h.own
 ·
  rw [hset, zip_set _ _ _ _ _ hbp]
  exact t4 (t', bps[i]) Ti' g1
 ·
  rw [hset]
  exact p4 t'.p Pi' g2
 · rw [hsame Te.fl (by show (p.tn i).fl = _; rw [Pl.tn_get hi])]; exact h.fs
 · rw [hsame Te.kp (by show (p.tn i).kp = _; rw [Pl.tn_get hi])]; exact h.ks
end
theorem setT_get {p : Pl} {i : Nat} (hi : i < p.l.length) (t' : Tn) {j : Nat} {e : Te} (h : (p.setT i t').l[j]? = some e) : ∃ e0, p.l[j]? = some e0 ∧ e.d = e0.d ∧ e.fl = e0.fl ∧ e.kp = e0.kp ∧ ((j = i ∧ e.t = t') ∨ (j ≠ i ∧ e = e0)) := by
 unfold Pl.setT at h
 simp only [Int.toNat_natCast] at h
 rw [List.getElem?_set] at h
 split at h
 ·
  rename_i hj
  subst hj
  cases h
  rw [Pl.tn_get hi]
  exact ⟨p.l[i], List.getElem?_eq_getElem hi, rfl, rfl, rfl, .inl ⟨rfl, rfl⟩⟩
 ·
  rename_i hj
  exact ⟨e, h, rfl, rfl, rfl, .inr ⟨Ne.symm hj, rfl⟩⟩
theorem DCut.setT {p : Pl} {D : Dv} (h : DCut p D) {i : Nat} (hi : i < p.l.length) (t' : Tn) : DCut (p.setT i t') D := ⟨h.ok, h.n, h.head, fun j e x he hx k hk => by
 obtain ⟨e0, h1, h2, -⟩ := setT_get hi t' he
 rw [h2]
 exact h.cut j e0 x h1 hx k hk⟩
theorem PlK.setT {p : Pl} {ac : Option Addr} {cc bs ba bl ca : Nat} {la : List Value} {bps : List Nat} {Hk : HL} (h : PlK p ac cc bs ba bl ca la bps Hk) (i : Int) (t' : Tn) : PlK (p.setT i t') ac cc bs ba bl ca la bps Hk := by
 refine ⟨?_, ?_, ?_⟩ <;> rw [setT_len]
 · exact h.cs
 · exact h.ar
 · exact h.n
theorem Pl.Inv.setT {p : Pl} (h : p.Inv) {i : Nat} (hi : i < p.l.length) {t' : Tn} (h1 : TInv p.c.dp.toNat t') (h2 : t'.pages = (p.tn i).t.pages) (h3 : t'.p.fs.length = (p.tn i).t.p.fs.length) : (p.setT i t').Inv :=
 ⟨h.ok, h.cin, by rw [setT_len]; exact h.len, fun j e x he hx => by
  obtain ⟨e0, g1, g2, g3, g4, g5⟩ := setT_get hi t' he
  have hk := h.te j e0 x g1 hx
  rcases g5 with ⟨rfl, rfl⟩ | ⟨-, rfl⟩
  ·
   rw [Pl.tn_get hi] at h2 h3
   rw [List.getElem?_eq_getElem hi] at g1
   cases g1
   exact ⟨h1, by rw [h2]; exact hk.pg, by rw [h3]; exact hk.q, by rw [g2]; exact hk.dk, by rw [g2]; exact hk.dl⟩
  · exact hk, h.ep, h.dn, h.now⟩
theorem Pl.Inv.at {p : Pl} (h : p.Inv) {i : Nat} (hi : i < p.l.length) : ∃ x, p.c.ps[i]? = some x ∧ x ∈ p.c.ps ∧ TeOk p.c.dp x (p.tn i) := by
 have hl := h.len
 rw [Pl.tn_get hi]
 exact ⟨p.c.ps[i], List.getElem?_eq_getElem _, List.getElem_mem _, h.te i _ _ (List.getElem?_eq_getElem hi) (List.getElem?_eq_getElem _)⟩
theorem splT {P : Program} {n : Nat} {R : HL} {cx : Cx} {K : List Kont} {ρ : Env} {L M : List HL} {A Ho T1 Ti T2 P1 Pi P2 Z : HL} (h : L = (A ++ (Ho ++ ((T1 ++ (Ti ++ T2)) ++ ((P1 ++ (Pi ++ P2)) ++ Z)))) :: M)
  (hk : W P n R cx K ρ (A :: Ho :: T1 :: Ti :: T2 :: P1 :: Pi :: P2 :: Z :: M)) : W P n R cx K ρ L := by
 subst h
 exact W.regroup (by simp) hk
theorem PSubmit_spec (p : Pl) (hi : p.Inv) (b : Nat) (H : HL) (h : PlAt p b H) (i : Int) (hid : p.in_ i → (p.tn i).t.ids < 1000000) (q : Rq) (hu : u8ok q.data) (hl : q.data.length ≤ 1000000) (hoi : i64s q.off) (hop : i64s q.op) (aq : Option Addr) (cq : Nat) (rq : HL) (hrq : RoSl 1 (u8s q.data) aq q.data.length rq) :
  Ctr Tryz.prog 53 [.pointer (some ⟨b, 0, none⟩), .int .i64 i, q.v aq cq] [H] rq (fun v L' => ∃ H', v = .tuple #[.int .i64 (p.submit i q).2.1, .int .i64 (p.submit i q).2.2] ∧ L' = [H'] ∧ PlAt (p.submit i q).1 b H') := by
 have hI := PIn_spec p b H h i
 have hR := PReady_spec p b H h
 have hpa := h
 unfold Pl.submit
 rcases Classical.em (p.in_ i) with hin | hin
 case' inr =>
  obtain ⟨qo, qp, qf, ql, qd⟩ := q
  simp only [Rq.v]
  refine Ctr.enter (n := 33) [.tmp 6, .tmp 7] [(0, _), (1, _), (2, _)] Tryz.func53 rfl rfl rfl (lb rfl) Tryz.call53 ⟨rfl, rfl, rfl, trivial⟩ ?_
  intro cx fin fin0
  refine aG ?_
  repeat (first | refine gx ?_ | refine gN fun _ => ?_ | refine gB fun _ => ?_ | fail)
  refine aC (o := hI) (h := ?_) (hro := RoIn.own 1 rfl)
  rintro _ _ ⟨rfl, rfl⟩
  refine aG ?_
  repeat (first | refine gh hin ?_ | refine gN fun _ => ?_ | refine gB fun _ => ?_ | fail)
  refine W.groupV [1] rfl ?_
  refine W.ret (fin _ _ (FinOk.first 1 (.tmp rfl (.tmp rfl .nil)) rfl ?_))
  rw [if_pos hin]
  exact ⟨_, rfl, rfl, hpa⟩
 rcases Classical.em (p.down = 0) with hd | hd
 case' inr =>
  obtain ⟨qo, qp, qf, ql, qd⟩ := q
  simp only [Rq.v]
  refine Ctr.enter (n := 33) [.tmp 6, .tmp 7] [(0, _), (1, _), (2, _)] Tryz.func53 rfl rfl rfl (lb rfl) Tryz.call53 ⟨rfl, rfl, rfl, trivial⟩ ?_
  intro cx fin fin0
  refine aG ?_
  repeat (first | refine gx ?_ | refine gN fun _ => ?_ | refine gB fun _ => ?_ | fail)
  refine aC (o := hI) (h := ?_) (hro := RoIn.own 1 rfl)
  rintro _ _ ⟨rfl, rfl⟩
  refine aG ?_
  repeat (first | refine gh hin ?_ | refine gN fun _ => ?_ | refine gB fun _ => ?_ | fail)
  refine aC (o := hR) (h := ?_) (hro := RoIn.own 1 rfl)
  rintro _ _ ⟨rfl, rfl⟩
  refine aG ?_
  repeat (first | refine gh (gc2 hin hd) ?_ | refine gN fun _ => ?_ | refine gB fun _ => ?_ | fail)
  refine W.groupV [1] rfl ?_
  refine W.ret (fin _ _ (FinOk.first 1 (.tmp rfl (.tmp rfl .nil)) rfl ?_))
  rw [if_neg (fun h => h hin), if_pos hd]
  exact ⟨_, rfl, rfl, hpa⟩
 obtain ⟨j, rfl⟩ : ∃ j : Nat, i = (j : Int) := ⟨i.toNat, by have := hin.1; omega⟩
 have hj : j < p.l.length := by have := hin.2; omega
 obtain ⟨D, ac, cc, bd, ba, bs, al, cl, bl, la, ca, bts, bps, bfs, bks, Ho, Ht, Hp, Hf, Hk, Hd, Hc, rfl, hT, hD, hDC, hK⟩ := h
 obtain ⟨bt, bf, bk, bx, ox, lx, ex, frx, o1, o2, o3, rfl, rfl, l0, -⟩ := hT.own_at hj
 obtain ⟨bt', bp, T1, Ti, T2, P1, Pi, P2, c1, c2, rfl, rfl, ht, hp, hback⟩ := hT.cut hj
 rw [o1] at c1
 cases c1
 obtain ⟨x, hx1, hx2, hte⟩ := hi.at hj
 have hS := Submit_spec p.c.dp.toNat (p.tn j).t hte.ti (hid hin) bt bp Ti ht Pi hp q hu hl hoi hop (fun h => check_ok h hu) aq cq rq hrq p.now
 generalize (p.tn j).t.submit p.c.dp.toNat q p.now = out at *
 obtain ⟨qo, qp, qf, ql, qd⟩ := q
 simp only [Rq.v] at *
 refine Ctr.enter (n := 33) [.tmp 6, .tmp 7] [(0, _), (1, _), (2, _)] Tryz.func53 rfl rfl rfl (lb rfl) Tryz.call53 ⟨rfl, rfl, rfl, trivial⟩ ?_
 intro cx fin fin0
 refine aG ?_
 repeat (first | refine gx ?_ | refine gN fun _ => ?_ | refine gB fun _ => ?_ | fail)
 refine aC (o := hI) (h := ?_) (hro := RoIn.own 1 rfl)
 rintro _ _ ⟨rfl, rfl⟩
 refine aG ?_
 repeat (first | refine gh hin ?_ | refine gN fun _ => ?_ | refine gB fun _ => ?_ | fail)
 refine aC (o := hR) (h := ?_) (hro := RoIn.own 1 rfl)
 rintro _ _ ⟨rfl, rfl⟩
 refine aG ?_
 repeat (first | refine gh (gc2 hin hd) ?_ | refine gN fun _ => ?_ | refine gB fun _ => ?_ | fail)
 refine W.order [1, 0] rfl ?_
 refine splT rfl ?_
 refine aG ?_
 refine W.drawH tab_ok 16 [.b false, .b false, .b false, .b false, .b false, .b false, .b false, .b false, .b false, .b false, .b false, .b false, .b false, .b true, .b false, .b false] [3,6] follows (by decide +kernel) (by decide +kernel) rfl (by decide) rfl ?_
 intro _
 refine dG ?_
 refine gdx ?_
 refine dV (OpVal.ixSl tab_ok rfl rfl rfl rfl rfl hj) ?_
 refine dV (OpVal.load tab_ok rfl (show At _ _ bx (.cells lx.toArray ex frx) from .inr (by simp)) l0) ?_
 refine gdx ?_
 refine dC (o := hS) (h := ?_) (hro := RoIn.all (fun q hq => by simp [hq]))
 rintro _ _ ⟨Ti', Pi', rfl, rfl, ht', hp'⟩
 refine dG ?_
 refine gdx ?_
 refine WD.nil (W.dropNil (aG ?_))
 repeat (first | refine gx ?_ | refine gN fun _ => ?_ | refine gB fun _ => ?_ | fail)
 refine W.groupV [2, 2, 2, 0, 1, 1, 0, 0, 0] rfl ?_
 refine W.ret (fin _ _ (FinOk.first 1 (.tmp rfl (.tmp rfl .nil)) rfl ?_))
 rw [if_neg (fun h => h hin), if_neg (fun h => h hd)]
 refine ⟨_, rfl, rfl, D, ac, cc, bd, ba, bs, _, cl, bl, la, ca, bts, bps, bfs, bks, _, _, _, Hf, Hk, Hd, Hc, ?_, hback _ Ti' Pi' ht' hp', hD, hDC.setT hj _, hK.setT _ _⟩
 simp [plCells, Pl.setT]
def emptyN (p : Pt) : Int := if p.empty then 0 else 1
theorem emptyN_ok (p : Pt) : 0 ≤ emptyN p ∧ emptyN p ≤ 64 := by unfold emptyN; split <;> decide
theorem Empty1_spec (p : Pt) (b : Nat) (H : HL) (hp : PtAt p b H) (hpo : p.Ok) : Ctr Tryz.prog 151 [.pointer (some ⟨b, 0, none⟩)] [] H (fun v L' => v = .int .i64 (emptyN p) ∧ L' = []) := by
 have hE := PEmpty_spec p hpo b H hp
 unfold emptyN
 generalize p.empty = q at *
 refine Ctr.enter (n := 5) [.tmp 2] [(0, _)] Tryz.func151 rfl rfl rfl (lb rfl) Tryz.call151 ⟨rfl, trivial⟩ ?_
 intro cx fin fin0
 refine aG ?_
 refine aC (o := hE) (h := ?_) (hro := RoIn.same)
 rintro _ _ ⟨rfl, rfl⟩
 refine aG ?_
 cases q with
 | true =>
  repeat (first | refine gx ?_ | refine gN fun _ => ?_ | refine gB fun _ => ?_ | fail)
  refine W.ret (fin _ _ (FinOk.first 0 (.tmp rfl .nil) rfl ?_))
  exact ⟨rfl, rfl⟩
 | false =>
  repeat (first | refine gx ?_ | refine gN fun _ => ?_ | refine gB fun _ => ?_ | fail)
  refine W.ret (fin _ _ (FinOk.first 0 (.tmp rfl .nil) rfl ?_))
  exact ⟨rfl, rfl⟩
theorem AEmpty_spec (ps : List Pt) (hok : ∀ p ∈ ps, p.Ok) (hn : ps.length ≤ 1000) (b : Nat) (H : HL) (ha : ArAt ps b H) :
  Ctr Tryz.prog 92 [.pointer (some ⟨b, 0, none⟩)] [] H (fun v L' => v = .bool (decide (tot emptyN ps = 0)) ∧ L' = []) := by
 have hL := ALen_spec ps b H ha
 have hS := sum_spec 151 emptyN Empty1_spec (fun p _ => emptyN_ok p) ps hok hn b H ha ps.length (Nat.le_refl _)
 rw [List.take_length] at hS
 refine Ctr.enter (n := 8) [.tmp 2] [(0, _)] Tryz.func92 rfl rfl rfl (lb rfl) Tryz.call92 ⟨rfl, trivial⟩ ?_
 intro cx fin fin0
 refine aG ?_
 refine aC (o := hL) (h := ?_)
 rintro _ _ ⟨rfl, rfl⟩
 refine aG ?_
 refine aC (o := hS) (h := ?_)
 rintro _ _ ⟨rfl, rfl⟩
 refine aG ?_
 repeat (first | refine gx ?_ | refine gN fun _ => ?_ | refine gB fun _ => ?_ | fail)
 refine W.ret (fin _ _ (FinOk.first 0 (.tmp rfl .nil) rfl ?_))
 exact ⟨rfl, rfl⟩
def Pl.empty (p : Pl) : Bool := decide (tot emptyN (p.l.map fun e => e.t.p) = 0)
theorem PEmptyP_spec (p : Pl) (hi : p.Inv) (b : Nat) (H : HL) (h : PlAt p b H) : Ctr Tryz.prog 42 [.pointer (some ⟨b, 0, none⟩)] [] H (fun v L' => v = .bool p.empty ∧ L' = []) := by
 obtain ⟨D, ac, cc, bd, ba, bs, al, cl, bl, la, ca, bts, bps, bfs, bks, Ho, Ht, Hp, Hf, Hk, Hd, Hc, rfl, hT, hD, hDC, hK⟩ := h
 obtain ⟨Hc2, rfl, -⟩ := hK.cs
 have hln : (p.l.map fun e => e.t.p).length = p.l.length := List.length_map _
 have hE := AEmpty_spec (p.l.map fun e => e.t.p) (fun q hq => by
  obtain ⟨e, he, rfl⟩ := List.mem_map.1 hq
  obtain ⟨i, hi2, rfl⟩ := List.getElem_of_mem he
  have h1 := hi.len
  exact (hi.te i _ _ (List.getElem?_eq_getElem hi2) (List.getElem?_eq_getElem (by omega))).ti.mi.inv.ok) (by rw [hln]; have := hK.n; omega) ba
  ((ba, .cells #[.slice (some ⟨bl, 0, none⟩) p.l.length ca] 241 (0, 0)) :: (bl, .cells (List.toArray la) 173 (0, 0)) :: Hp)
  ⟨bps, bl, la, ca, Hp, by rw [hln], by rw [hln]; exact hK.ar.1, by rw [hln]; exact hK.ar.2, PtsAt.piles.2 hT.ps⟩
 unfold Pl.empty
 refine Ctr.enter (n := 8) [.tmp 2] [(0, _)] Tryz.func42 rfl rfl rfl (lb rfl) Tryz.call42 ⟨rfl, trivial⟩ ?_
 intro cx fin fin0
 refine aG ?_
 repeat (first | refine gx ?_ | refine gN fun _ => ?_ | refine gB fun _ => ?_ | fail)
 refine aC (o := hE) (h := ?_) (hro := RoIn.all (fun q hq => (List.mem_cons.1 hq).elim (fun h => by subst h; simp [arCells]) (fun hq => (List.mem_cons.1 hq).elim (fun h => by subst h; simp [arCells]) (fun h => by simp [h]))))
 rintro _ _ ⟨rfl, rfl⟩
 refine aG ?_
 repeat (first | refine gx ?_ | refine gN fun _ => ?_ | refine gB fun _ => ?_ | fail)
 refine W.ret (fin _ _ (FinOk.first 0 (.tmp rfl .nil) rfl ?_))
 exact ⟨rfl, rfl⟩
end Go.Proofs.YtfpghdcjdnifcaaGreat
namespace Go.Proofs.YtfpghdcjdnifcaaGreat
open Go Go.Sl Go.IntWalk
set_option maxHeartbeats 8000000
set_option maxRecDepth 20000
set_option linter.unusedVariables false
structure Bl where
 a : Option Addr
 cap : Nat
 xs : List Bool
def Bl.v (b : Bl) : Value := .slice b.a b.xs.length b.cap
def BitsAt (bs : List Bl) (a : Option Addr) (r : HL) : Prop := ∃ r0, RoSl 1 (bs.flatMap fun b => [b.v]) a bs.length r0 ∧ (∀ q ∈ r0, q ∈ r) ∧ ∀ b ∈ bs, ∃ rb, RoSl 1 (bls b.xs) b.a b.xs.length rb ∧ (∀ q ∈ rb, q ∈ r) ∧ b.xs.length ≤ 140737488351232
theorem BitsAt.nil : BitsAt [] none [] := ⟨[], ⟨rfl, .inl ⟨rfl, rfl⟩⟩, fun _ h => (by cases h), fun _ h => (by cases h)⟩
theorem PlOf_spec (bs : List Bl) (a : Option Addr) (cap : Nat) (r : HL) (h : BitsAt bs a r) (i : Nat) :
  Ctr Tryz.prog 91 [.slice a bs.length cap, .int .i64 (i : Int)] [] r (fun v L' => ∃ b H, v = .pointer (some ⟨b, 0, none⟩) ∧ L' = [H] ∧ StAt ((bs.map Bl.xs).getD i []) b H) := by
 obtain ⟨r0, hr0, hs0, hall⟩ := h
 rcases Nat.lt_or_ge i bs.length with hlt | hge
 ·
  have hz : ¬ (i : Int) ≥ (bs.length : Int) := by omega
  obtain ⟨bx, ox, lx, ex, frx, rfl, rfl, -, hld⟩ := RoSl.at (f := fun b : Bl => [b.v]) (m := 1) (fun _ => rfl) hr0 hlt
  have l0 : lx[ox + i * 1]? = some (bs[i]).v := hld 0 (by decide)
  obtain ⟨rb, h1, h2, h3⟩ := hall _ (List.getElem_mem hlt)
  have hN := SNew_spec (bs[i]).xs h3 (bs[i]).a (bs[i]).cap rb h1
  have hg : (bs.map Bl.xs).getD i [] = (bs[i]).xs := by simp [List.getD_eq_getElem?_getD, hlt]
  rw [hg]
  generalize bs[i] = x at *
  simp only [Bl.v] at l0
  refine Ctr.enter (n := 15) [.tmp 4] [(0, _), (1, _)] Tryz.func91 rfl rfl rfl (lb rfl) Tryz.call91 ⟨rfl, rfl, trivial⟩ ?_
  intro cx fin fin0
  refine aG ?_
  repeat (first | refine gh hz ?_ | refine gN fun _ => ?_ | refine gB fun _ => ?_ | fail)
  refine aV (OpVal.ixSl tab_ok rfl rfl rfl rfl rfl hlt) ?_
  refine aV (OpVal.load tab_ok rfl (.inr (hs0 _ (List.mem_singleton.2 rfl))) l0) ?_
  repeat (first | refine gx ?_ | refine gN fun _ => ?_ | refine gB fun _ => ?_ | fail)
  refine aC (o := hN) (h := ?_) (hro := RoIn.all h2)
  rintro _ _ ⟨b, H, rfl, rfl, hst⟩
  refine aG ?_
  repeat (first | refine gx ?_ | refine gN fun _ => ?_ | refine gB fun _ => ?_ | fail)
  refine W.ret (fin _ _ (FinOk.first 1 (.tmp rfl .nil) rfl ?_))
  exact ⟨b, H, rfl, rfl, hst⟩
 ·
  have hz : (i : Int) ≥ (bs.length : Int) := by omega
  have hg : (bs.map Bl.xs).getD i [] = [] := by rw [List.getD_eq_getElem?_getD, List.getElem?_eq_none (by simpa using hge)]; rfl
  rw [hg]
  have hN := SNew_spec [] (by decide) none 0 [] ⟨rfl, .inl ⟨rfl, rfl⟩⟩
  refine Ctr.enter (n := 15) [.tmp 4] [(0, _), (1, _)] Tryz.func91 rfl rfl rfl (lb rfl) Tryz.call91 ⟨rfl, rfl, trivial⟩ ?_
  intro cx fin fin0
  refine aG ?_
  repeat (first | refine gh hz ?_ | refine gN fun _ => ?_ | refine gB fun _ => ?_ | fail)
  refine aC (o := hN) (h := ?_) (hro := RoIn.nil)
  rintro _ _ ⟨b, H, rfl, rfl, hst⟩
  refine aG ?_
  repeat (first | refine gx ?_ | refine gN fun _ => ?_ | refine gB fun _ => ?_ | fail)
  refine W.ret (fin _ _ (FinOk.first 1 (.tmp rfl .nil) rfl ?_))
  exact ⟨b, H, rfl, rfl, hst⟩
theorem new_len (c : Cf) (fs ks : List (List Bool)) : (Pl.new c fs ks).l.length = c.ps.length := by simp [Pl.new]
theorem new_at (c : Cf) (fs ks : List (List Bool)) (i : Nat) (h : i < c.ps.length) : (Pl.new c fs ks).l[i]? = some (teNew fs ks i c.ps[i]) := by simp [Pl.new, h]
theorem Cf.Ok.part {c : Cf} (h : c.Ok) {i : Nat} {x : Cp} (hx : c.ps[i]? = some x) : x.Ok c.se := h.ps x (List.mem_of_getElem? hx)
theorem new_pinv {c : Cf} (h : c.Ok) (hin : c.In) (fs ks : List (List Bool)) : (Pl.new c fs ks).Inv := by
 refine ⟨h, hin, new_len c fs ks, fun i e x he hx => ?_, ⟨by show (1 : Int) ≤ 1; decide, by show (1 : Int) ≤ 1073741824; decide⟩, ⟨by show (0 : Int) ≤ 0; decide, by show (0 : Int) ≤ 2; decide⟩, by show (0 : Int) ≤ 0; decide⟩
 have hx' : c.ps[i]? = some x := hx
 obtain ⟨hi, hxi⟩ := List.getElem?_eq_some_iff.1 hx'
 rw [new_at c fs ks i hi, hxi] at he
 cases he
 have ho := h.part hx'
 have h1 := ho.1
 have h2 := ho.2.1
 exact ⟨new_inv _ _ (by omega) (by omega) _, rfl, by show (((List.replicate x.q.toNat Fr.zero).length : Nat) : Int) = x.q; rw [List.length_replicate]; omega, Dv.new_ok (by omega) (by omega), by show (((List.replicate (2 * x.p).toNat zcell).length : Nat) : Int) = _; rw [List.length_replicate]; omega⟩
def dev0 (c : Cf) : Dv := ⟨(Dv.new c.se.toNat).lasts, (Dv.new c.se.toNat).later, supB 1 c⟩
theorem dev0_cut {c : Cf} (h : c.Ok) (fs ks : List (List Bool)) : DCut (Pl.new c fs ks) (dev0 c) := by
 have hs := h.se
 have hk := Dv.new_ok (n := c.se.toNat) (by omega) (by omega)
 have hl := h.len
 refine ⟨⟨hk.len, hk.n, hk.lu, hk.tu, sealB_ok (supBody_ok 1 c), ?_⟩, ?_, rfl, fun i e x he hx k hkk => ?_⟩
 ·
  show (supB 1 c).length ≤ 100000
  unfold supB
  rw [sealB_len, supBody_len]
  omega
 ·
  show (((List.replicate c.se.toNat zcell).length : Nat) : Int) = c.se
  rw [List.length_replicate]; omega
 ·
  have hx' : c.ps[i]? = some x := hx
  obtain ⟨hi, hxi⟩ := List.getElem?_eq_some_iff.1 hx'
  rw [new_at c fs ks i hi, hxi] at he
  cases he
  have ho := h.part hx'
  unfold Cp.Ok Cp.to at ho
  show (List.replicate c.se.toNat zcell)[x.b.toNat + k]? = (List.replicate (2 * x.p).toNat zcell)[k]? ∧ (List.replicate c.se.toNat ([] : List Int))[x.b.toNat + k]? = (List.replicate (2 * x.p).toNat [])[k]?
  rw [List.getElem?_replicate, List.getElem?_replicate, List.getElem?_replicate, List.getElem?_replicate, if_pos (by omega), if_pos (by omega), if_pos (by omega), if_pos (by omega)]
  exact ⟨rfl, rfl⟩
theorem tot_made : ∀ (ls : List Int), (∀ n ∈ ls, 0 ≤ n) → tot flen (made ls) = ls.sum := by
 intro ls h
 unfold tot made
 have : ∀ (ls : List Int) (a : Int), (∀ n ∈ ls, 0 ≤ n) → (ls.map fun n => Pt.new n.toNat).foldl (fun a p => a + flen p) a = a + ls.sum := by
  intro ls
  induction ls with
  | nil => intro a _; simp
  | cons n ls ih =>
   intro a h
   have h0 := h n (List.mem_cons_self ..)
   rw [List.map_cons, List.foldl_cons, ih _ (fun m hm => h m (List.mem_cons_of_mem _ hm)), List.sum_cons]
   have : flen (Pt.new n.toNat) = n := by unfold flen Pt.new; simp only [List.length_replicate]; omega
   rw [this]
   omega
 rw [this ls 0 h]
 omega
theorem may_cut {c : Cf} (h : c.Ok) : MayCut (c.ps.map Cp.q) := by
 have hq : ∀ n ∈ c.ps.map Cp.q, 1 ≤ n ∧ n ≤ 64 := fun n hn => by
  obtain ⟨x, hx, rfl⟩ := List.mem_map.1 hn
  exact (h.ps x hx).1
 refine ⟨by rw [List.length_map]; exact h.len.1, by rw [List.length_map]; exact h.len.2, hq, ?_⟩
 rw [tot_made _ (fun n hn => by have := hq n hn; omega), h.sum]
 exact h.fr.2
def pairL (c : Cf) (bps : List Nat) (j : Nat) : List (Tn × Nat) := (List.range j).map fun i => (Tn.new (c.ps.getD i ⟨0, 0, 0⟩).q.toNat (c.ps.getD i ⟨0, 0, 0⟩).p, bps.getD i 0)
def bitL (fs : List (List Bool)) (j : Nat) : List (List Bool) := (List.range j).map fun i => fs.getD i []
theorem pairL_all (c : Cf) (fs ks : List (List Bool)) (bps : List Nat) (hb : bps.length = c.ps.length) : ((Pl.new c fs ks).l.map Te.t).zip bps = pairL c bps c.ps.length := by
 refine List.ext_getElem (by simp [pairL, Pl.new, hb]) fun i h1 h2 => ?_
 have hi : i < c.ps.length := by simpa [pairL] using h2
 simp [pairL, Pl.new, teNew, List.getD_eq_getElem?_getD, hi, hb]
theorem bitF_all (c : Cf) (fs ks : List (List Bool)) : (Pl.new c fs ks).l.map Te.fl = bitL fs c.ps.length := by
 refine List.ext_getElem (by simp [bitL, Pl.new]) fun i h1 h2 => ?_
 simp [bitL, Pl.new, teNew]
theorem bitK_all (c : Cf) (fs ks : List (List Bool)) : (Pl.new c fs ks).l.map Te.kp = bitL ks c.ps.length := by
 refine List.ext_getElem (by simp [bitL, Pl.new]) fun i h1 h2 => ?_
 simp [bitL, Pl.new, teNew]
theorem parts_all (c : Cf) (fs ks : List (List Bool)) : ((Pl.new c fs ks).l.map fun e => e.t.p) = made (c.ps.map Cp.q) := by
 refine List.ext_getElem (by simp [made, Pl.new]) fun i h1 h2 => ?_
 simp [made, Pl.new, teNew, Tn.new]
theorem owns_snoc {bts bfs bks : List Nat} {n : Nat} (h1 : bts.length = n) (h2 : bfs.length = n) (h3 : bks.length = n) (a b c : Nat) : Owns (bts ++ [a]) (bfs ++ [b]) (bks ++ [c]) = Owns bts bfs bks ++ ownL (a, b, c) := by
 unfold Owns
 rw [List.zip_append (by omega), List.zip_append (by simp; omega), List.flatMap_append]
 simp
theorem splA {P : Program} {n : Nat} {R : HL} {cx : Cx} {K : List Kont} {ρ : Env} {L M : List HL} {x y : Nat × Obj} {Z : HL} (h : L = (x :: y :: Z) :: M) (hk : W P n R cx K ρ ([x] :: [y] :: Z :: M)) : W P n R cx K ρ L := by
 subst h
 exact W.regroup (by simp) hk
theorem POpen_spec (c : Cf) (hin : c.In) (hps : c.ps.length ≤ 9223372036854775807) (a : Option Addr) (cap : Nat) (hcap : c.ps.length ≤ cap) (ro : HL) (hro : RoSl 3 (cps c.ps) a c.ps.length ro) (fs ks : List Bl) (af : Option Addr) (cf : Nat) (rf : HL) (hf : BitsAt fs af rf) (ak : Option Addr) (ck : Nat) (rk : HL) (hk : BitsAt ks ak rk) :
  Ctr Tryz.prog 37 [c.v a cap, .slice af fs.length cf, .slice ak ks.length ck] [] (ro ++ (rf ++ rk)) (fun v L' => (¬ c.Ok ∧ v = .tuple #[.pointer none, .int .i64 3] ∧ L' = []) ∨
   (c.Ok ∧ ∃ b H, v = .tuple #[.pointer (some ⟨b, 0, none⟩), .int .i64 0] ∧ L' = [H] ∧ PlAt (Pl.new c (fs.map Bl.xs) (ks.map Bl.xs)) b H)) := by
 have hW := SupWrite_spec 1 ⟨by decide, by decide⟩ c hin hps a cap hcap ro hro
 rcases Classical.em c.Ok with hok | hno
 case' inr =>
  have hW2 := hW.post (post' := fun v L' => v = .tuple #[.slice none 0 0, .int .i64 3] ∧ L' = []) (fun v L' h => h.elim (fun h => ⟨h.2.1, h.2.2⟩) (fun h => absurd h.1.2 hno))
  refine Ctr.enter (n := 117) [.tmp 6, .tmp 7] [(0, _), (1, _), (2, _)] Tryz.func37 rfl rfl rfl (lb rfl) Tryz.call37 ⟨rfl, rfl, rfl, trivial⟩ ?_
  intro cx fin fin0
  refine aG ?_
  repeat (first | refine gx ?_ | refine gN fun _ => ?_ | refine gB fun _ => ?_ | fail)
  refine aBu (ps := [_, _]) ?_
  repeat (first | refine gx ?_ | refine gN fun _ => ?_ | refine gB fun _ => ?_ | fail)
  refine aC (o := hW2) (h := ?_) (hro := RoIn.all (fun q hq => List.mem_append_left _ hq))
  rintro _ _ ⟨rfl, rfl⟩
  refine aG ?_
  repeat (first | refine gx ?_ | refine gN fun _ => ?_ | refine gB fun _ => ?_ | fail)
  refine W.order [] rfl ?_
  refine W.ret (fin _ _ (FinOk.first 0 (.tmp rfl (.tmp rfl .nil)) rfl ?_))
  exact .inl ⟨hno, rfl, rfl⟩
 have hW2 := hW.post (post' := fun v L' => ∃ a' cap' H, v = .tuple #[.slice a' (supB 1 c).length cap', .int .i64 0] ∧ L' = [H] ∧ Own 1 5 (u8s (supB 1 c)) a' (supB 1 c).length cap' H) (fun v L' h => h.elim (fun h => absurd ⟨⟨by decide, by decide⟩, hok⟩ h.1) (fun h => h.2))
 have hl := hok.len
 have hse := hok.se
 have hC := CClone_spec c hl.1 hl.2 a cap ro hro
 have hN := (DNew_spec c.se).post (post' := fun v L' => ∃ b H, v = .tuple #[.pointer (some ⟨b, 0, none⟩), .int .i64 0] ∧ L' = [H] ∧ DevAt (Dv.new c.se.toNat) b H) (fun v L' h => h.elim (fun h => absurd hse h.1) (fun h => h.2))
 have hdk := Dv.new_ok (n := c.se.toNat) (by omega) (by omega)
 have hhl : (supB 1 c).length ≤ 100000 := by unfold supB; rw [sealB_len, supBody_len]; omega
 have hSH := fun b H h => DSetHead_spec (Dv.new c.se.toNat) hdk b H h (supB 1 c) hhl
 have hSN := SNewS_spec c.ps.length hl.1 hl.2
 have hCut := fun a cap ro hro => (Cut_spec (c.ps.map Cp.q) a cap ro hro).post (post' := fun v L' => ∃ b H, v = .tuple #[.pointer (some ⟨b, 0, none⟩), .int .i64 0] ∧ L' = [H] ∧ ArAt (made (c.ps.map Cp.q)) b H) (fun v L' h => h.elim (fun h => absurd (may_cut hok) h.1) (fun h => h.2))
 rw [List.length_map] at hCut
 refine Ctr.enter (n := 117) [.tmp 6, .tmp 7] [(0, _), (1, _), (2, _)] Tryz.func37 rfl rfl rfl (lb rfl) Tryz.call37 ⟨rfl, rfl, rfl, trivial⟩ ?_
 intro cx fin fin0
 refine aG ?_
 repeat (first | refine gx ?_ | refine gN fun _ => ?_ | refine gB fun _ => ?_ | fail)
 rename_i b3
 refine aBu (ps := [_, _]) ?_
 repeat (first | refine gx ?_ | refine gN fun _ => ?_ | refine gB fun _ => ?_ | fail)
 refine aC (o := hW2) (h := ?_) (hro := RoIn.all (fun q hq => List.mem_append_left _ hq))
 rintro _ _ ⟨a1, c1, H1, rfl, rfl, ho1⟩
 refine aG ?_
 repeat (first | refine gx ?_ | refine gN fun _ => ?_ | refine gB fun _ => ?_ | fail)
 refine aC (o := hC) (h := ?_) (hro := RoIn.all (fun q hq => List.mem_append_left _ hq))
 rintro _ _ ⟨a2, c2, H2, rfl, rfl, ho2⟩
 refine aG ?_
 refine aBu (ps := [_, _]) ?_
 repeat (first | refine gx ?_ | refine gN fun _ => ?_ | refine gB fun _ => ?_ | fail)
 rename_i bp
 refine aC (o := hN) (h := ?_)
 rintro _ _ ⟨bd, Hd, rfl, rfl, hD⟩
 refine aG ?_
 repeat (first | refine gx ?_ | refine gN fun _ => ?_ | refine gB fun _ => ?_ | fail)
 refine aC (o := hSH bd Hd hD a1 c1 H1 (Own.roSl ho1)) (h := ?_) (hro := RoIn.own 2 rfl)
 rintro _ _ ⟨Hd, rfl, hD⟩
 refine aG ?_
 repeat (first | refine gx ?_ | refine gN fun _ => ?_ | refine gB fun _ => ?_ | fail)
 refine aC (o := hSN) (h := ?_)
 rintro _ _ ⟨bs, rfl, rfl⟩
 refine aG ?_
 repeat (first | refine gx ?_ | refine gN fun _ => ?_ | refine gB fun _ => ?_ | fail)
 refine W.order [2, 1, 0, 0, 1] rfl ?_
 refine W.nilChunk ?_
 refine aLp (fun k ρ1 L1 => ∃ (j : Nat) (qs : List Int) (aq : Option Addr) (cq : Nat) (Hq : HL), j ≤ c.ps.length ∧ k = c.ps.length - j ∧ qs = (c.ps.take j).map Cp.q ∧ Own 1 3 (ints qs) aq qs.length cq Hq ∧ ρ1 = [(58, .int .i64 (j : Int)), (57, .int .i64 (c.ps.length : Int)), (56, .slice a c.ps.length cap), (11, .slice aq qs.length cq), (10, .pointer (some ⟨bp, 0, none⟩)), (3, .pointer (some ⟨b3, 0, none⟩)), (1, .slice af fs.length cf), (2, .slice ak ks.length ck)] ∧ L1 = [Hq, [(bp, .cells #[.int .i64 c.fr, .int .i64 c.dp, .int .i64 c.se, .slice a2 c.ps.length c2, .pointer (some ⟨bd, 0, none⟩), .pointer none, .pointer (some ⟨bs, 0, none⟩), .slice none 0 0, .int .i64 0, .int .i64 1, .int .i64 0] 162 (0, 0))], Hd, [(bs, .cells #[.int .i64 (c.ps.length : Int)] 238 (0, 0))], H2, [(b3, .cells #[.int .i64 c.fr, .int .i64 c.dp, .int .i64 c.se, .slice a c.ps.length cap] 24 (0, 0))]]) (o := ⟨0, [], none, 0, [], Nat.zero_le _, rfl, rfl, Own.nil 1 _, rfl, rfl⟩) (h := ?_)
 rintro k ρ1 L1 ⟨j, qs, aq, cq, Hq, hj, rfl, hqs, hoq, rfl, rfl⟩
 refine aG ?_
 rcases Classical.em ((j : Int) < (c.ps.length : Int)) with hz | hz
 ·
  have hlt : j < c.ps.length := by omega
  obtain ⟨bx, ox, lx, ex, frx, rfl, rfl, hld⟩ := cps_at hro hlt
  have hnx : (c.ps.take (j + 1)).map Cp.q = qs ++ [(c.ps[j]).q] := by rw [List.take_succ_eq_append_getElem hlt, List.map_append, hqs]; rfl
  have hql : qs.length ≤ 16 := by rw [hqs, List.length_map, List.length_take]; omega
  generalize c.ps[j] = x at *
  repeat (first | refine gh hz ?_ | refine gN fun _ => ?_ | refine gB fun _ => ?_ | fail)
  refine aV (OpVal.ixSl tab_ok rfl rfl rfl rfl rfl hlt) ?_
  refine aV (OpVal.load tab_ok rfl rh hld) ?_
  repeat (first | refine gx ?_ | refine gN fun _ => ?_ | refine gB fun _ => ?_ | fail)
  refine aSl (ps := [_]) ?_
  intro bt
  refine aG ?_
  refine aAp (hoq) ?_
  rintro _ _ ⟨_, _, _, rfl, rfl, ho⟩
  refine aG ?_
  obtain ⟨q2, hq2⟩ : ∃ q2, q2 = qs ++ [x.q] := ⟨_, rfl⟩
  have e2 : ints qs ++ [.int .i64 x.q] = ints q2 := by rw [hq2]; simp [ints]
  have e3 : qs.length + 1 = q2.length := by rw [hq2, List.length_append]; rfl
  rw [e2, e3] at ho
  rw [e3]
  repeat (first | refine gh hz ?_ | refine gN fun _ => ?_ | refine gB fun _ => ?_ | fail)
  refine W.order [0, 2, 2, 2, 2, 2] rfl ?_
  refine aR (o := ⟨c.ps.length - (j + 1), by omega, j + 1, q2, _, _, _, by omega, rfl, by rw [hnx, hq2], ho, rfl, rfl⟩)
 obtain rfl : j = c.ps.length := by omega
 rw [List.take_length] at hqs
 subst hqs
 have hlm : (c.ps.map Cp.q).length = c.ps.length := List.length_map _
 rw [hlm] at hoq
 rw [hlm]
 repeat (first | refine gh hz ?_ | refine gN fun _ => ?_ | refine gB fun _ => ?_ | fail)
 refine aC (o := hCut aq cq Hq (Own.roSl hoq)) (h := ?_) (hro := RoIn.own 0 rfl)
 rintro _ _ ⟨ba, Ha, rfl, rfl, hA⟩
 refine aG ?_
 obtain ⟨bps, bl, la, ca, Hp, rfl, ha1, ha2, ha3⟩ := hA
 have hml : (made (c.ps.map Cp.q)).length = c.ps.length := by simp [made]
 rw [hml] at ha1 ha2
 have hbpl : bps.length = c.ps.length := by rw [ha3.len, hml]
 have hPart := fun (j : Nat) (hj : j < c.ps.length) => (Part_spec (made (c.ps.map Cp.q)) ba _ bps bl ca la Hp rfl (by rw [hml]; exact ha1) (by rw [hml]; exact ha2) ha3 (j : Int)).post (post' := fun v L' => v = .pointer (some ⟨bps.getD j 0, 0, none⟩) ∧ L' = []) (fun v L' h => ⟨by
  rw [h.1, if_pos (by rw [hml]; omega), Int.toNat_natCast, List.getD_eq_getElem?_getD, List.getElem?_eq_getElem (show j < bps.length by omega)]; rfl, h.2⟩)
 rw [hml] at hPart
 refine splA (by rw [hml]) ?_
 repeat (first | refine gx ?_ | refine gN fun _ => ?_ | refine gB fun _ => ?_ | fail)
 refine W.order [4, 0, 0, 0, 1, 1, 1, 1] rfl ?_
 refine W.nilChunk ?_
 refine W.nilChunk ?_
 refine W.nilChunk ?_
 refine W.nilChunk ?_
 have hOf := fun (j : Nat) => PlOf_spec fs af cf rf hf j
 have hOk := fun (j : Nat) => PlOf_spec ks ak ck rk hk j
 have hTN := fun (j : Nat) (hj : j < c.ps.length) bp => TNew_spec (c.ps[j]).q.toNat c.dp.toNat (by have := hok.dp; omega) (by have := hok.dp; omega) (c.ps[j]).p (hok.ps _ (List.getElem_mem hj)).2.1.1 (hok.ps _ (List.getElem_mem hj)).2.1.2 bp
 have hdp : ((c.dp.toNat : Nat) : Int) = c.dp := by have := hok.dp; omega
 rw [hdp] at hTN
 clear hCut hSN hSH hN hC hW2 hW
 refine aLp (fun k ρ1 L1 => ∃ (j : Nat) (bts bfs bks : List Nat) (al : Option Addr) (cl : Nat) (Ho Ht Hf Hk : HL), j ≤ c.ps.length ∧ k = c.ps.length - j ∧ Own 3 178 (Owns bts bfs bks) al j cl Ho ∧ Piles (fun (e : Tn × Nat) b H => TAt c.dp.toNat e.1 b e.2 H) (pairL c bps j) bts Ht ∧ Piles StAt (bitL (fs.map Bl.xs) j) bfs Hf ∧ Piles StAt (bitL (ks.map Bl.xs) j) bks Hk ∧ ρ1 = [(79, .int .i64 (j : Int)), (78, .int .i64 (c.ps.length : Int)), (77, .slice a c.ps.length cap), (10, .pointer (some ⟨bp, 0, none⟩)), (3, .pointer (some ⟨b3, 0, none⟩)), (1, .slice af fs.length cf), (2, .slice ak ks.length ck)] ∧ L1 = [Ho, Ht, Hf, Hk, [(bp, .cells #[.int .i64 c.fr, .int .i64 c.dp, .int .i64 c.se, .slice a2 c.ps.length c2, .pointer (some ⟨bd, 0, none⟩), .pointer (some ⟨ba, 0, none⟩), .pointer (some ⟨bs, 0, none⟩), .slice al j cl, .int .i64 0, .int .i64 1, .int .i64 0] 162 (0, 0))], [(ba, .cells #[.slice (some ⟨bl, 0, none⟩) c.ps.length ca] 241 (0, 0))], [(bl, .cells la.toArray 173 (0, 0))], Hp, Hd, [(bs, .cells #[.int .i64 (c.ps.length : Int)] 238 (0, 0))], H2, [(b3, .cells #[.int .i64 c.fr, .int .i64 c.dp, .int .i64 c.se, .slice a c.ps.length cap] 24 (0, 0))]]) (o := ⟨0, [], [], [], none, 0, [], [], [], [], Nat.zero_le _, rfl, Own.nil 3 _, ⟨rfl, rfl⟩, ⟨rfl, rfl⟩, ⟨rfl, rfl⟩, rfl, rfl⟩) (h := ?_)
 rintro k ρ1 L1 ⟨j, bts, bfs, bks, al, cl, Ho, Ht, Hf, Hk, hj, rfl, how, hts, hfs, hks, rfl, rfl⟩
 refine aG ?_
 rcases Classical.em ((j : Int) < (c.ps.length : Int)) with hz | hz
 ·
  have hlt : j < c.ps.length := by omega
  obtain ⟨bx, ox, lx, ex, frx, rfl, rfl, hld⟩ := cps_at hro hlt
  have hPj := hPart j hlt
  have hTj := hTN j hlt (bps.getD j 0)
  have hpr : pairL c bps (j + 1) = pairL c bps j ++ [(Tn.new (c.ps[j]).q.toNat (c.ps[j]).p, bps.getD j 0)] := by
   unfold pairL
   rw [List.range_succ, List.map_append]
   simp [List.getD_eq_getElem?_getD, hlt]
  generalize c.ps[j] = x at *
  repeat (first | refine gh hz ?_ | refine gN fun _ => ?_ | refine gB fun _ => ?_ | fail)
  refine aV (OpVal.ixSl tab_ok rfl rfl rfl rfl rfl hlt) ?_
  refine aV (OpVal.load tab_ok rfl rh hld) ?_
  repeat (first | refine gx ?_ | refine gN fun _ => ?_ | refine gB fun _ => ?_ | fail)
  refine W.drawH tab_ok 16 [.b false, .b false, .b false, .b false, .b false, .b false, .b false, .b false, .b false, .b false, .b true, .b false, .b false, .b false, .b false, .b false] [] follows (by decide +kernel) (by decide +kernel) rfl (by decide) rfl ?_
  intro _
  refine dG ?_
  refine gdx ?_
  refine dQ (o := hPj) (h := ?_) (hro := (fun q hq => (List.mem_cons.1 hq).elim (fun h => by subst h; simp) (fun hq => (List.mem_cons.1 hq).elim (fun h => by subst h; simp) (fun h => by simp [h]))))
  refine gdx ?_
  refine dC (o := hTj) (h := ?_)
  rintro _ _ ⟨bt, Hn, rfl, rfl, htn⟩
  refine dG ?_
  refine gdx ?_
  refine WD.nil (W.dropNil (aG ?_))
  repeat (first | refine gx ?_ | refine gN fun _ => ?_ | refine gB fun _ => ?_ | fail)
  refine W.drawH tab_ok 15 [.b false, .b false, .b false, .b false, .b false, .b false, .b false, .b false, .b true, .b false, .b false, .b true, .b false, .b true, .b true] [2] follows (by decide +kernel) (by decide +kernel) rfl (by decide) rfl ?_
  intro _
  refine dG ?_
  refine gdx ?_
  refine dC (o := hOf j) (h := ?_) (hro := RoIn.all (fun q hq => List.mem_append_right _ (List.mem_append_right _ (List.mem_append_left _ hq))))
  rintro _ _ ⟨bf, Hfn, rfl, rfl, hfn⟩
  refine dG ?_
  refine gdx ?_
  refine dC (o := hOk j) (h := ?_) (hro := RoIn.all (fun q hq => List.mem_append_right _ (List.mem_append_right _ (List.mem_append_right _ hq))))
  rintro _ _ ⟨bk, Hkn, rfl, rfl, hkn⟩
  refine dG ?_
  refine gdx ?_
  refine dV (OpVal.build (ps := [_, _, _]) tab_ok rfl rfl rfl rfl (by repeat (first | exact trivial | refine ⟨⟨_, _, _, rfl, rfl, rfl⟩, ?_⟩)) rfl) ?_
  refine dSl (ps := [_]) ?_
  intro bt9
  refine dG ?_
  refine dAp (how) ?_
  rintro _ _ ⟨_, _, _, rfl, rfl, ho⟩
  refine dG ?_
  refine gdx ?_
  refine WD.nil (W.dropNil (aG ?_))
  repeat (first | refine gx ?_ | refine gN fun _ => ?_ | refine gB fun _ => ?_ | fail)
  have hbl1 : bts.length = j := by rw [hts.len]; simp [pairL]
  have hbl2 : bfs.length = j := by rw [hfs.len]; simp [bitL]
  have hbl3 : bks.length = j := by rw [hks.len]; simp [bitL]
  have hts2 := hts.snoc (e := (Tn.new x.q.toNat x.p, bps.getD j 0)) htn
  have hfs2 := hfs.snoc hfn
  have hks2 := hks.snoc hkn
  rw [← hpr] at hts2
  have e1 : ∀ l : List (List Bool), bitL l j ++ [l.getD j []] = bitL l (j + 1) := fun l => by unfold bitL; rw [List.range_succ, List.map_append]; rfl
  rw [e1] at hfs2 hks2
  have e3 : Owns bts bfs bks ++ [.pointer (some ⟨bt, 0, none⟩), .pointer (some ⟨bf, 0, none⟩), .pointer (some ⟨bk, 0, none⟩)] = Owns (bts ++ [bt]) (bfs ++ [bf]) (bks ++ [bk]) := (owns_snoc hbl1 hbl2 hbl3 bt bf bk).symm
  rw [e3] at ho
  refine W.groupV [6, 4] rfl ?_
  refine W.groupV [6, 4] rfl ?_
  refine W.groupV [6, 4] rfl ?_
  refine W.order [3, 2, 1, 0, 2, 2, 2, 2, 2, 2, 2, 2] rfl ?_
  refine aR (o := ⟨c.ps.length - (j + 1), by omega, j + 1, _, _, _, _, _, _, _, _, _, by omega, rfl, ho, hts2, hfs2, hks2, rfl, rfl⟩)
 ·
  obtain rfl : j = c.ps.length := by omega
  repeat (first | refine gh hz ?_ | refine gN fun _ => ?_ | refine gB fun _ => ?_ | fail)
  refine W.groupV [4, 0, 0, 4, 0, 0, 2, 2, 0, 0, 0] rfl ?_
  refine W.ret (fin _ _ (FinOk.first 1 (.tmp rfl (.tmp rfl .nil)) rfl ?_))
  have hnl := new_len c (fs.map Bl.xs) (ks.map Bl.xs)
  refine .inr ⟨hok, bp, _, rfl, rfl, dev0 c, a2, c2, bd, ba, bs, al, cl, bl, la, ca, bts, bps, bfs, bks, Ho, Ht, Hp, Hf, Hk, Hd, arCells c.ps.length bs ba bl ca la ++ H2, ?_, ⟨?_, ?_, ?_, ?_, ?_⟩, hD, dev0_cut hok _ _, ⟨⟨H2, by rw [hnl], Own.roSl ho2, ?_⟩, ⟨by rw [hnl]; exact ha1, by rw [hnl]; exact ha2⟩, by rw [hnl]; exact hl.2⟩⟩
  ·
   unfold plCells
   rw [hnl]
   simp [arCells, Pl.new]
  · rw [hnl]; exact Own.roSl how
  · rw [pairL_all c _ _ bps hbpl]; exact hts
  · rw [parts_all]; exact PtsAt.piles.1 ha3
  · rw [bitF_all]; exact hfs
  · rw [bitK_all]; exact hks
  ·
   show c.ps.length ≤ c2
   rcases ho2.2 with ⟨_, h1, h2, _⟩ | ⟨_, _, _, _, h1, _⟩ <;> omega
end Go.Proofs.YtfpghdcjdnifcaaGreat
namespace Go.Proofs.YtfpghdcjdnifcaaGreat
open Go Go.Sl Go.IntWalk
set_option maxHeartbeats 8000000
set_option maxRecDepth 20000
set_option linter.unusedVariables false
def gpart (a : Int) (x : Cp) : Cp := ⟨1 + around x.q 3, a + around x.b 3, 1 + around x.p 4⟩
def gparts : Int → List Cp → List Cp
 | _, [] => []
 | a, x :: r => gpart a x :: gparts (gpart a x).to r
def gat : Int → List Cp → Int
 | a, [] => a
 | a, x :: r => gat (gpart a x).to r
def gbase (c : Cf) : List Cp := if c.ps.take 4 = [] then [⟨0, 0, 0⟩] else c.ps.take 4
def gcf (c : Cf) : Cf := ⟨sumq (gparts 0 (gbase c)), 1 + around c.dp 4, gat 0 (gbase c) + around c.se 3, gparts 0 (gbase c)⟩
theorem gparts_ok : ∀ (l : List Cp) (a : Int), 0 ≤ a → (gparts a l).length = l.length ∧ (∀ x ∈ gparts a l, (1 ≤ x.q ∧ x.q ≤ 3) ∧ (1 ≤ x.p ∧ x.p ≤ 4) ∧ a ≤ x.b ∧ x.to ≤ gat a l) ∧ (gparts a l).Pairwise Apart ∧ a ≤ gat a l ∧ gat a l ≤ a + 10 * (l.length : Int)
 | [], a, h => ⟨rfl, fun x hx => by simp [gparts] at hx, by simp [gparts], by simp [gat], by simp [gat]⟩
 | x :: r, a, h => by
  have r1 := around_range x.q 3 (by decide)
  have r2 := around_range x.b 3 (by decide)
  have r3 := around_range x.p 4 (by decide)
  have ht : (gpart a x).to = a + around x.b 3 + (1 + around x.p 4) * 2 := rfl
  obtain ⟨h1, h2, h3, h4, h5⟩ := gparts_ok r (gpart a x).to (by omega)
  refine ⟨by simp [gparts, h1], fun y hy => ?_, List.pairwise_cons.2 ⟨fun y hy => .inl (h2 y hy).2.2.1, h3⟩, by rw [gat]; omega, by rw [gat, List.length_cons]; omega⟩
  rcases List.mem_cons.1 hy with rfl | hy
  · refine ⟨⟨?_, ?_⟩, ⟨?_, ?_⟩, ?_, h4⟩ <;> simp only [gpart] <;> omega
  ·
   have := h2 y hy
   exact ⟨this.1, this.2.1, by omega, this.2.2.2⟩
theorem gcf_ok (c : Cf) : (gcf c).Ok := by
 have hl : 1 ≤ (gbase c).length ∧ (gbase c).length ≤ 4 := by
  unfold gbase
  split
  · exact ⟨by decide, by decide⟩
  ·
   rename_i h
   exact ⟨List.length_pos_iff.2 h, by rw [List.length_take]; omega⟩
 obtain ⟨h1, h2, h3, h4, h5⟩ := gparts_ok (gbase c) 0 (by decide)
 have r1 := around_range c.dp 4 (by decide)
 have r2 := around_range c.se 3 (by decide)
 have hs : ∀ {l : List Cp}, (∀ x ∈ l, 1 ≤ x.q ∧ x.q ≤ 3) → (l.length : Int) ≤ sumq l ∧ sumq l ≤ 3 * (l.length : Int) := by
  intro l
  induction l with
  | nil => intro _; simp [sumq]
  | cons x l ih =>
   intro h
   have i1 := ih fun y hy => h y (List.mem_cons_of_mem _ hy)
   have i2 := h x (List.mem_cons_self ..)
   simp only [sumq, List.map_cons, List.sum_cons, List.length_cons] at i1 ⊢
   omega
 have hq := hs fun x hx => (h2 x hx).1
 have hg : ∀ x ∈ gparts 0 (gbase c), x.to ≥ x.b + 2 := fun x hx => by have := (h2 x hx).2.1; unfold Cp.to; omega
 have hse : 1 ≤ gat 0 (gbase c) := by
  obtain ⟨x, hx⟩ := List.exists_mem_of_length_pos (show 0 < (gparts 0 (gbase c)).length by omega)
  have := h2 x hx
  have := hg x hx
  omega
 exact ⟨by show 1 ≤ (gparts 0 (gbase c)).length ∧ (gparts 0 (gbase c)).length ≤ 16; omega, by show 1 ≤ sumq (gparts 0 (gbase c)) ∧ sumq (gparts 0 (gbase c)) ≤ 64; omega, by show 1 ≤ 1 + around c.dp 4 ∧ 1 + around c.dp 4 ≤ 8; omega, by show 1 ≤ gat 0 (gbase c) + around c.se 3 ∧ gat 0 (gbase c) + around c.se 3 ≤ 1024; omega, fun x hx => by
  have := h2 x hx
  have hx2 : x.to ≤ gat 0 (gbase c) + around c.se 3 := by omega
  exact ⟨by omega, by omega, by omega, hx2⟩, h3, rfl⟩
theorem gcf_len (c : Cf) : (gcf c).ps.length ≤ 4 := by
 have := (gparts_ok (gbase c) 0 (by decide)).1
 have h2 : (gbase c).length ≤ 4 := by
  unfold gbase
  split
  · decide
  · rw [List.length_take]; omega
 show (gparts 0 (gbase c)).length ≤ 4
 omega
end Go.Proofs.YtfpghdcjdnifcaaGreat
namespace Go.Proofs.YtfpghdcjdnifcaaGreat
open Go Go.Sl Go.IntWalk
set_option maxHeartbeats 8000000
set_option maxRecDepth 20000
set_option linter.unusedVariables false
structure Gt where
 p : Pl
 tabs : List Tb
def Gt.why (g : Gt) (i : Int) : Int := if ¬ g.p.in_ i then 1 else if g.p.down ≠ 0 then 12 else 0
def noTb : Tb := ⟨0, 0, []⟩
def Gt.tab (g : Gt) (i : Int) : Tb := g.tabs.getD i.toNat noTb
def Gt.setTab (g : Gt) (i : Int) (t : Tb) : Gt := ⟨g.p, g.tabs.set i.toNat t⟩
def Gt.root (g : Gt) (i : Int) : (Int × Int) × Int := if g.why i ≠ 0 then ((0, 0), g.why i) else ((g.tab i).root, 0)
def Gt.live (g : Gt) (i : Int) : Int := if g.why i ≠ 0 then 0 else ((g.tab i).all.length : Int)
def Gt.let_ (g : Gt) (i : Int) (b : List Int) : Int :=
 if (rdReq b).2.2 ≠ 0 ∨ needs (rdReq b).2.1.op = 0 then 2 else (g.tab i).check (rdReq b).1 (needs (rdReq b).2.1.op)
def Gt.accept (g : Gt) (i : Int) (b : List Int) : Gt × Int × Int :=
 if g.why i ≠ 0 then (g, 0, g.why i) else if g.let_ i b ≠ 0 then (g, 0, g.let_ i b) else
 (⟨(g.p.submit i (rdReq b).2.1).1, g.tabs⟩, (g.p.submit i (rdReq b).2.1).2)
structure Gt.Inv (g : Gt) : Prop where
 p : g.p.Inv
 len : g.tabs.length = g.p.l.length
 tb : ∀ t ∈ g.tabs, t.Inv ∧ t.e = g.p.epoch
def Gt.new (c : Cf) (fs ks : List (List Bool)) : Gt := ⟨Pl.new c fs ks, List.replicate c.ps.length (Tb.new 1)⟩
theorem new_ginv {c : Cf} (h : c.Ok) (hin : c.In) (fs ks : List (List Bool)) : (Gt.new c fs ks).Inv :=
 ⟨new_pinv h hin fs ks, by show (List.replicate _ _).length = _; rw [List.length_replicate]; exact (new_len c fs ks).symm, fun t ht => by
  rw [List.eq_of_mem_replicate ht]; exact ⟨Tb.new_inv (by decide), rfl⟩⟩
theorem needs_le (op : Int) : 0 ≤ needs op ∧ needs op < 16 := by
 unfold needs
 split
 · decide
 ·
  split
  · decide
  · split <;> decide
def inCells (bp : Nat) (ep : Int) (al : Option Addr) (n cl : Nat) : List Value := [.pointer (some ⟨bp, 0, none⟩), .int .i64 ep, .slice al n cl]
structure TbsAt (g : Gt) (bp : Nat) (al : Option Addr) (bts : List Nat) (Hp Hl Ht : HL) : Prop where
 pl : PlAt g.p bp Hp
 sl : RoSl 1 (ptrs bts) al g.p.l.length Hl
 tb : Piles TbAt g.tabs bts Ht
def InAt (g : Gt) (bx : Nat) (H : HL) : Prop := ∃ (bp : Nat) (al : Option Addr) (cl : Nat) (bts : List Nat) (Hp Hl Ht : HL), H = [(bx, Obj.cells (List.toArray (inCells bp g.p.epoch al g.p.l.length cl)) 136 (0, 0))] ++ (Hp ++ (Hl ++ Ht)) ∧ TbsAt g bp al bts Hp Hl Ht
def InOld (g : Gt) (bx : Nat) (H : HL) : Prop := ∃ (bp : Nat) (ep : Int) (al : Option Addr) (n cl : Nat) (Hp : HL), H = [(bx, Obj.cells (List.toArray (inCells bp ep al n cl)) 136 (0, 0))] ++ Hp ∧ PlAt g.p bp Hp ∧ ep ≠ g.p.epoch ∧ g.tabs = List.replicate g.p.l.length (Tb.new g.p.epoch)
def InAny (g : Gt) (bx : Nat) (H : HL) : Prop := InAt g bx H ∨ InOld g bx H
def GtAt (g : Gt) (b : Nat) (H : HL) : Prop := ∃ (bx : Nat) (Hx : HL), H = [(b, Obj.cells (List.toArray [.pointer (some ⟨bx, 0, none⟩)]) 138 (0, 0))] ++ Hx ∧ InAny g bx Hx
theorem InAny.pool {g : Gt} {bx : Nat} {H : HL} (h : InAny g bx H) : ∃ (bp : Nat) (ep : Int) (al : Option Addr) (n cl : Nat) (Hp Z : HL), H = [(bx, Obj.cells (List.toArray (inCells bp ep al n cl)) 136 (0, 0))] ++ (Hp ++ Z) ∧ PlAt g.p bp Hp := by
 rcases h with ⟨bp, al, cl, bts, Hp, Hl, Ht, rfl, h⟩ | ⟨bp, ep, al, n, cl, Hp, rfl, h, -⟩
 · exact ⟨bp, _, al, _, cl, Hp, Hl ++ Ht, rfl, h.pl⟩
 · exact ⟨bp, ep, al, n, cl, Hp, [], by simp, h⟩
theorem ptrs_at {bts : List Nat} {n : Nat} {al : Option Addr} {Hl : HL} (h : RoSl 1 (ptrs bts) al n Hl) (hn : bts.length = n) {i b : Nat} (hb : bts[i]? = some b) :
  ∃ bx ox lx ex frx, al = some ⟨bx, ox, none⟩ ∧ Hl = [(bx, .cells (List.toArray lx) ex frx)] ∧ lx[ox + i * 1]? = some (.pointer (some ⟨b, 0, none⟩)) := by
 have hi : i < bts.length := (List.getElem?_eq_some_iff.1 hb).1
 have e : ptrs bts = bts.flatMap fun b => [Value.pointer (some ⟨b, 0, none⟩)] := by unfold ptrs; rw [List.map_eq_flatMap]
 rw [e, ← hn] at h
 obtain ⟨bx, ox, lx, ex, frx, h1, h2, -, h3⟩ := RoSl.at (f := fun b : Nat => [Value.pointer (some ⟨b, 0, none⟩)]) (m := 1) (fun _ => rfl) h hi
 refine ⟨bx, ox, lx, ex, frx, h1, h2, ?_⟩
 have := h3 0 (by decide)
 rw [List.getElem?_eq_getElem hi] at hb
 cases hb
 simpa using this
theorem spl4g {P : Program} {n : Nat} {R : HL} {cx : Cx} {K : List Kont} {ρ : Env} {L M : List HL} {A B C D : HL} (h : L = (A ++ (B ++ (C ++ D))) :: M) (hk : W P n R cx K ρ (A :: B :: C :: D :: M)) : W P n R cx K ρ L := by
 subst h
 exact W.regroup (by simp) hk
theorem Renew_spec (g : Gt) (hi : g.Inv) (bx : Nat) (H : HL) (h : InAny g bx H) : Ctr Tryz.prog 127 [.pointer (some ⟨bx, 0, none⟩)] [H] [] (fun _ L' => ∃ H', L' = [H'] ∧ InAt g bx H') := by
 rcases h with h | h
 ·
  have hia := h
  obtain ⟨bp, al, cl, bts, Hp, Hl, Ht, rfl, h⟩ := h
  have hE := PEpoch_spec g.p bp Hp h.pl
  refine Ctr.enter (n := 51) [] [(0, _)] Tryz.func127 rfl rfl rfl (lb rfl) Tryz.call127 ⟨rfl, trivial⟩ ?_
  intro cx fin fin0
  refine aG ?_
  refine spl4g rfl ?_
  refine aG ?_
  refine W.draw follows (by decide +kernel) (zG ?_)
  refine gzx ?_
  refine zC (o := hE) (h := ?_) (hro := RoIn.own 1 rfl)
  refine gzx ?_
  refine WZ.nil (aG ?_)
  repeat (first | refine gx ?_ | refine gN fun _ => ?_ | refine gB fun _ => ?_ | fail)
  refine W.groupV [0, 0, 0, 0] rfl ?_
  refine W.ret (fin _ _ (FinOk.first 1 .nil rfl ?_))
  exact ⟨_, rfl, hia⟩
 ·
  obtain ⟨bp, ep, al, n, cl, Hp, rfl, hp, hne, htb⟩ := h
  have hE := PEpoch_spec g.p bp Hp hp
  have hL := PLenP_spec g.p bp Hp hp
  have hN := TNewC_spec g.p.epoch hi.p.ep
  have hl16 : g.p.l.length ≤ 16 := by rw [hi.p.len]; exact hi.p.ok.len.2
  refine Ctr.enter (n := 51) [] [(0, _)] Tryz.func127 rfl rfl rfl (lb rfl) Tryz.call127 ⟨rfl, trivial⟩ ?_
  intro cx fin fin0
  refine aG ?_
  refine spl2 rfl ?_
  refine aG ?_
  refine W.draw follows (by decide +kernel) (zG ?_)
  refine gzx ?_
  refine zC (o := hE) (h := ?_) (hro := RoIn.own 1 rfl)
  refine gzx ?_
  refine WZ.nil (aG ?_)
  repeat (first | refine gh hne ?_ | refine gN fun _ => ?_ | refine gB fun _ => ?_ | fail)
  refine aC (o := hE) (h := ?_) (hro := RoIn.own 1 rfl)
  rintro _ _ ⟨rfl, rfl⟩
  refine aG ?_
  repeat (first | refine gx ?_ | refine gN fun _ => ?_ | refine gB fun _ => ?_ | fail)
  refine aC (o := hL) (h := ?_) (hro := RoIn.own 1 rfl)
  rintro _ _ ⟨rfl, rfl⟩
  refine aG ?_
  refine W.nilChunk ?_
  refine W.nilChunk ?_
  refine aLp (fun k ρ1 L1 => ∃ (j : Nat) (bts : List Nat) (al : Option Addr) (cl : Nat) (Hl Ht : HL), j ≤ g.p.l.length ∧ k = g.p.l.length - j ∧ Own 1 141 (ptrs bts) al j cl Hl ∧ Piles TbAt (List.replicate j (Tb.new g.p.epoch)) bts Ht ∧ ρ1 = [(30, .int .i64 (j : Int)), (29, .int .i64 (g.p.l.length : Int)), (0, .pointer (some ⟨bx, 0, none⟩))] ∧ L1 = [Hl, Ht, [(bx, .cells #[.pointer (some ⟨bp, 0, none⟩), .int .i64 g.p.epoch, .slice al j cl] 136 (0, 0))], Hp]) (o := ⟨0, [], none, 0, [], [], Nat.zero_le _, rfl, Own.nil 1 _, ⟨rfl, rfl⟩, rfl, rfl⟩) (h := ?_)
  rintro k ρ1 L1 ⟨j, bts, al, cl, Hl, Ht, hj, rfl, how, htt, rfl, rfl⟩
  refine aG ?_
  rcases Classical.em ((j : Int) < (g.p.l.length : Int)) with hz | hz
  ·
   repeat (first | refine gh hz ?_ | refine gN fun _ => ?_ | refine gB fun _ => ?_ | fail)
   refine aC (o := hN) (h := ?_)
   rintro _ _ ⟨bt, Hn, rfl, rfl, htn⟩
   refine aG ?_
   repeat (first | refine gx ?_ | refine gN fun _ => ?_ | refine gB fun _ => ?_ | fail)
   refine aSl (ps := [_]) ?_
   intro b9
   refine aG ?_
   refine aAp (how) ?_
   rintro _ _ ⟨_, _, _, rfl, rfl, ho⟩
   refine aG ?_
   have e2 : ptrs bts ++ [.pointer (some ⟨bt, 0, none⟩)] = ptrs (bts ++ [bt]) := by simp [ptrs]
   rw [e2] at ho
   have h2 := htt.snoc htn
   rw [← List.replicate_succ'] at h2
   repeat (first | refine gh hz ?_ | refine gN fun _ => ?_ | refine gB fun _ => ?_ | fail)
   refine W.groupV [3, 2] rfl ?_
   refine W.order [1, 0, 1, 1] rfl ?_
   refine aR (o := ⟨g.p.l.length - (j + 1), by omega, j + 1, _, _, _, _, _, by omega, rfl, ho, h2, rfl, rfl⟩)
  ·
   obtain rfl : j = g.p.l.length := by omega
   repeat (first | refine gh hz ?_ | refine gN fun _ => ?_ | refine gB fun _ => ?_ | fail)
   refine W.groupV [2, 2, 0, 0] rfl ?_
   refine fin0 _ _ (FinOk.first 1 .nil rfl ?_)
   exact ⟨_, rfl, bp, al, cl, bts, Hp, Hl, Ht, rfl, hp, Own.roSl how, by rw [htb]; exact htt⟩
end Go.Proofs.YtfpghdcjdnifcaaGreat
namespace Go.Proofs.YtfpghdcjdnifcaaGreat
open Go Go.Sl Go.IntWalk
set_option maxHeartbeats 8000000
set_option maxRecDepth 20000
set_option linter.unusedVariables false
theorem rint_ok {r : Rd} (h : u8ok r.b) : i64s r.int.1 ∧ u8ok r.int.2.b := by
 have h1 := uint_range h
 refine ⟨?_, (uint_len h).1⟩
 show i64s (s64 r.uint.1)
 unfold s64 i64s
 split <;> omega
theorem rbytes_ok {r : Rd} (h : u8ok r.b) (m : Int) : u8ok (r.bytes m).1 := by
 unfold Rd.bytes
 split
 · exact (take_ok (r := ⟨[], true⟩) (by intro x hx; cases hx) _).1
 · exact (take_ok (uint_len h).1 _).1
theorem rbytes_len {r : Rd} (h : u8ok r.b) {m : Int} (hm : 0 ≤ m) : ((r.bytes m).1.length : Int) ≤ m := by
 have h0 := uint_range h
 unfold Rd.bytes
 split
 · unfold Rd.take; rw [if_pos (.inl rfl)]; simpa using hm
 ·
  unfold Rd.take
  split
  · simpa using hm
  · simp only [List.length_take]; omega
theorem rdReq_ok {bs : List Int} (h : u8ok bs) : Rq.I (rdReq bs).1 (rdReq bs).2.1 ∧ u8ok (rdReq bs).2.1.data ∧ (rdReq bs).2.1.data.length ≤ 32 := by
 have k1 := rint_ok (r := ⟨bs, false⟩) h
 have k2 := rint_ok k1.2
 have k3 := rint_ok k2.2
 have k4 := rint_ok k3.2
 have k5 := rint_ok k4.2
 have k6 := rint_ok k5.2
 have k7 := rbytes_ok k6.2 32
 have k8 := rbytes_len k6.2 (m := 32) (by decide)
 have hz : i64s 0 := ⟨by decide, by decide⟩
 unfold rdReq
 simp only
 split
 · exact ⟨⟨hz, hz, hz, hz, hz, hz⟩, (by intro x hx; cases hx), by simp⟩
 · exact ⟨⟨k1.1, k2.1, k3.1, k4.1, k5.1, k6.1⟩, k7, by simp only; omega⟩
theorem GOpen_spec (c : Cf) (hin : c.In) (hps : c.ps.length ≤ 9223372036854775807) (a : Option Addr) (cap : Nat) (hcap : c.ps.length ≤ cap) (ro : HL) (hro : RoSl 3 (cps c.ps) a c.ps.length ro) (fs ks : List Bl) (af : Option Addr) (cf : Nat) (rf : HL) (hf : BitsAt fs af rf) (ak : Option Addr) (ck : Nat) (rk : HL) (hk : BitsAt ks ak rk) :
  Ctr Tryz.prog 17 [c.v a cap, .slice af fs.length cf, .slice ak ks.length ck] [] (ro ++ (rf ++ rk)) (fun v L' => (¬ c.Ok ∧ v = .tuple #[.pointer none, .int .i64 3] ∧ L' = []) ∨
   (c.Ok ∧ ∃ b H, v = .tuple #[.pointer (some ⟨b, 0, none⟩), .int .i64 0] ∧ L' = [H] ∧ GtAt (Gt.new c (fs.map Bl.xs) (ks.map Bl.xs)) b H)) := by
 have hO := POpen_spec c hin hps a cap hcap ro hro fs ks af cf rf hf ak ck rk hk
 rcases Classical.em c.Ok with hok | hno
 ·
  have hO2 := hO.post (post' := fun v L' => ∃ b H, v = .tuple #[.pointer (some ⟨b, 0, none⟩), .int .i64 0] ∧ L' = [H] ∧ PlAt (Pl.new c (fs.map Bl.xs) (ks.map Bl.xs)) b H) (fun v L' h => h.elim (fun h => absurd hok h.1) (fun h => h.2))
  refine Ctr.enter (n := 25) [.tmp 6, .tmp 7] [(0, _), (1, _), (2, _)] Tryz.func17 rfl rfl rfl (lb rfl) Tryz.call17 ⟨rfl, rfl, rfl, trivial⟩ ?_
  intro cx fin fin0
  refine aG ?_
  repeat (first | refine gx ?_ | refine gN fun _ => ?_ | refine gB fun _ => ?_ | fail)
  refine aC (o := hO2) (h := ?_) (hro := RoIn.same)
  rintro _ _ ⟨bp, Hp, rfl, rfl, hp⟩
  refine aG ?_
  repeat (first | refine gx ?_ | refine gN fun _ => ?_ | refine gB fun _ => ?_ | fail)
  refine aBu (ps := [_]) ?_
  repeat (first | refine gx ?_ | refine gN fun _ => ?_ | refine gB fun _ => ?_ | fail)
  refine aBu (ps := [_]) ?_
  repeat (first | refine gx ?_ | refine gN fun _ => ?_ | refine gB fun _ => ?_ | fail)
  refine W.groupV [0, 0, 0] rfl ?_
  refine W.ret (fin _ _ (FinOk.first 1 (.tmp rfl (.tmp rfl .nil)) rfl ?_))
  refine .inr ⟨hok, _, _, rfl, rfl, _, _, rfl, .inr ⟨bp, 0, none, 0, 0, Hp, rfl, hp, by show (0 : Int) ≠ 1; decide, ?_⟩⟩
  show List.replicate c.ps.length (Tb.new 1) = List.replicate (Pl.new c (fs.map Bl.xs) (ks.map Bl.xs)).l.length (Tb.new 1)
  rw [new_len]
 ·
  have hO2 := hO.post (post' := fun v L' => v = .tuple #[.pointer none, .int .i64 3] ∧ L' = []) (fun v L' h => h.elim (fun h => h.2) (fun h => absurd h.1 hno))
  refine Ctr.enter (n := 25) [.tmp 6, .tmp 7] [(0, _), (1, _), (2, _)] Tryz.func17 rfl rfl rfl (lb rfl) Tryz.call17 ⟨rfl, rfl, rfl, trivial⟩ ?_
  intro cx fin fin0
  refine aG ?_
  repeat (first | refine gx ?_ | refine gN fun _ => ?_ | refine gB fun _ => ?_ | fail)
  refine aC (o := hO2) (h := ?_) (hro := RoIn.same)
  rintro _ _ ⟨rfl, rfl⟩
  refine aG ?_
  repeat (first | refine gx ?_ | refine gN fun _ => ?_ | refine gB fun _ => ?_ | fail)
  refine W.order [] rfl ?_
  refine W.ret (fin _ _ (FinOk.first 0 (.tmp rfl (.tmp rfl .nil)) rfl ?_))
  exact .inl ⟨hno, rfl, rfl⟩
theorem spl3g {P : Program} {n : Nat} {R : HL} {cx : Cx} {K : List Kont} {ρ : Env} {L M : List HL} {A B C : HL} (h : L = (A ++ (B ++ C)) :: M) (hk : W P n R cx K ρ (A :: B :: C :: M)) : W P n R cx K ρ L := by
 subst h
 exact W.regroup (by simp) hk
theorem Table_spec (g : Gt) (hi : g.Inv) (bx : Nat) (H : HL) (h : InAny g bx H) (i : Int) : Ctr Tryz.prog 70 [.pointer (some ⟨bx, 0, none⟩), .int .i64 i] [H] []
  (fun v L' => (g.why i ≠ 0 ∧ v = .tuple #[.pointer none, .int .i64 (g.why i)] ∧ L' = [H]) ∨ (g.why i = 0 ∧ ∃ (j bp : Nat) (al : Option Addr) (cl : Nat) (bts : List Nat) (bt : Nat) (Hp Hl Ht : HL), i = (j : Int) ∧ j < g.tabs.length ∧ bts[j]? = some bt ∧ v = .tuple #[.pointer (some ⟨bt, 0, none⟩), .int .i64 0] ∧
   L' = [[(bx, Obj.cells (List.toArray (inCells bp g.p.epoch al g.p.l.length cl)) 136 (0, 0))], Hp, Hl, Ht] ∧ TbsAt g bp al bts Hp Hl Ht)) := by
 have hRn := Renew_spec g hi bx H h
 obtain ⟨bp, ep, al, n, cl, Hp, Z, rfl, hp⟩ := h.pool
 have hL := PLenP_spec g.p bp Hp hp
 have hR := PReady_spec g.p bp Hp hp
 have hiw : g.why i = if ¬ g.p.in_ i then 1 else if g.p.down ≠ 0 then 12 else 0 := rfl
 unfold Pl.in_ at hiw
 generalize g.why i = w at *
 refine Ctr.enter (n := 34) [.tmp 4, .tmp 5] [(0, _), (1, _)] Tryz.func70 rfl rfl rfl (lb rfl) Tryz.call70 ⟨rfl, rfl, trivial⟩ ?_
 intro cx fin fin0
 refine aG ?_
 refine spl3g rfl ?_
 refine aG ?_
 repeat (first | refine gx ?_ | refine gN fun _ => ?_ | refine gB fun _ => ?_ | fail)
 rcases Classical.em (i < 0) with g1 | g1
 ·
  rw [if_pos (by omega)] at hiw
  repeat (first | refine gh g1 ?_ | refine gN fun _ => ?_ | refine gB fun _ => ?_ | fail)
  refine W.groupV [0, 0, 0] rfl ?_
  refine W.ret (fin _ _ (FinOk.first 1 (.tmp rfl (.tmp rfl .nil)) rfl ?_))
  exact .inl ⟨by omega, by rw [hiw]; rfl, rfl⟩
 repeat (first | refine gh g1 ?_ | refine gN fun _ => ?_ | refine gB fun _ => ?_ | fail)
 refine aC (o := hL) (h := ?_) (hro := RoIn.own 1 rfl)
 rintro _ _ ⟨rfl, rfl⟩
 refine aG ?_
 rcases Classical.em (i ≥ (g.p.l.length : Int)) with g2 | g2
 ·
  rw [if_pos (by omega)] at hiw
  repeat (first | refine gh (gc2 g1 g2) ?_ | refine gN fun _ => ?_ | refine gB fun _ => ?_ | fail)
  refine W.groupV [0, 0, 0] rfl ?_
  refine W.ret (fin _ _ (FinOk.first 1 (.tmp rfl (.tmp rfl .nil)) rfl ?_))
  exact .inl ⟨by omega, by rw [hiw]; rfl, rfl⟩
 rw [if_neg (by omega)] at hiw
 repeat (first | refine gh (gc2 g1 g2) ?_ | refine gN fun _ => ?_ | refine gB fun _ => ?_ | fail)
 refine aC (o := hR) (h := ?_) (hro := RoIn.own 1 rfl)
 rintro _ _ ⟨rfl, rfl⟩
 refine aG ?_
 rcases Classical.em (g.p.down = 0) with g3 | g3
 case' inr =>
  rw [if_pos g3] at hiw
  repeat (first | refine gh g3 ?_ | refine gN fun _ => ?_ | refine gB fun _ => ?_ | fail)
  refine W.groupV [0, 0, 0] rfl ?_
  refine W.ret (fin _ _ (FinOk.first 1 (.tmp rfl (.tmp rfl .nil)) rfl ?_))
  exact .inl ⟨by omega, by rw [hiw]; rfl, rfl⟩
 rw [if_neg (fun h => h g3)] at hiw
 subst hiw
 repeat (first | refine gh g3 ?_ | refine gN fun _ => ?_ | refine gB fun _ => ?_ | fail)
 refine W.groupV [0, 0, 0] rfl ?_
 refine aC (o := hRn) (h := ?_)
 rintro _ _ ⟨H2, rfl, bp2, al2, cl2, bts, Hp2, Hl, Ht, rfl, h2⟩
 refine aG ?_
 refine spl4g rfl ?_
 refine aG ?_
 obtain ⟨j, rfl⟩ : ∃ j : Nat, i = (j : Int) := ⟨i.toNat, by omega⟩
 have hj : j < g.p.l.length := by omega
 have htl : j < g.tabs.length := by rw [hi.len]; exact hj
 have hbl := h2.tb.len
 have hbt : bts[j]? = some bts[j] := List.getElem?_eq_getElem (by omega)
 obtain ⟨bl, ol, ll, el, frl, rfl, rfl, l0⟩ := ptrs_at h2.sl (by rw [hbl, hi.len]) hbt
 repeat (first | refine gx ?_ | refine gN fun _ => ?_ | refine gB fun _ => ?_ | fail)
 refine aV (OpVal.ixSl tab_ok rfl rfl rfl rfl rfl hj) ?_
 refine aV (OpVal.load tab_ok rfl (at_own 2 rfl) l0) ?_
 repeat (first | refine gx ?_ | refine gN fun _ => ?_ | refine gB fun _ => ?_ | fail)
 refine W.ret (fin _ _ (FinOk.first 4 (.tmp rfl (.tmp rfl .nil)) rfl ?_))
 exact .inr ⟨rfl, j, bp2, _, cl2, bts, bts[j], Hp2, _, Ht, rfl, htl, hbt, rfl, rfl, h2⟩
theorem keepAll : ∀ L : List HL, Sel L L []
 | [] => .nil
 | c :: L => .cons .here (keepAll L)
theorem TableNo_spec (g : Gt) (hi : g.Inv) (bx : Nat) (H : HL) (h : InAny g bx H) (i : Int) (hw : g.why i ≠ 0) : Ctr Tryz.prog 70 [.pointer (some ⟨bx, 0, none⟩), .int .i64 i] [H] []
  (fun v L' => v = .tuple #[.pointer none, .int .i64 (g.why i)] ∧ L' = [H]) := (Table_spec g hi bx H h i).post fun v L' h => h.elim (fun h => h.2) (fun h => absurd h.1 hw)
theorem TableYes_spec (g : Gt) (hi : g.Inv) (bx : Nat) (H : HL) (h : InAny g bx H) (i : Int) (hw : g.why i = 0) : Ctr Tryz.prog 70 [.pointer (some ⟨bx, 0, none⟩), .int .i64 i] [H] []
  (fun v L' => ∃ (bp : Nat) (al : Option Addr) (cl : Nat) (bts : List Nat) (bt : Nat) (Hp Hl T1 Ti T2 : HL), v = .tuple #[.pointer (some ⟨bt, 0, none⟩), .int .i64 0] ∧
   L' = [[(bx, Obj.cells (List.toArray (inCells bp g.p.epoch al g.p.l.length cl)) 136 (0, 0))], Hp, Hl, T1, Ti, T2] ∧ PlAt g.p bp Hp ∧ TbAt (g.tab i) bt Ti ∧
   ∀ t' Ti' p' Hp', TbAt t' bt Ti' → PlAt p' bp Hp' → p'.epoch = g.p.epoch → p'.l.length = g.p.l.length → InAt ⟨p', (g.setTab i t').tabs⟩ bx ([(bx, Obj.cells (List.toArray (inCells bp g.p.epoch al g.p.l.length cl)) 136 (0, 0))] ++ (Hp' ++ (Hl ++ (T1 ++ (Ti' ++ T2)))))) := by
 refine ((Table_spec g hi bx H h i).out ?_)
 rintro v L' (⟨h1, -⟩ | ⟨-, j, bp, al, cl, bts, bt, Hp, Hl, Ht, rfl, hj, hbt, rfl, rfl, ⟨h1, h2, h3⟩⟩)
 · exact absurd hw h1
 obtain ⟨bt', T1, Ti, T2, e1, rfl, e3, e4⟩ := h3.split hj
 rw [hbt] at e1
 cases e1
 have htb : g.tab (j : Int) = g.tabs[j] := by
  unfold Gt.tab
  rw [Int.toNat_natCast, List.getD_eq_getElem?_getD, List.getElem?_eq_getElem hj, Option.getD_some]
 refine ⟨_, [[(bx, Obj.cells (List.toArray (inCells bp g.p.epoch al g.p.l.length cl)) 136 (0, 0))], Hp, Hl, T1, Ti, T2], [], keepAll _, by simp, bp, al, cl, bts, bt, Hp, Hl, T1, Ti, T2, rfl, rfl, h1, by rw [htb]; exact e3, fun t' Ti' p' Hp' g1 g2 g3 g4 => ?_⟩
 refine ⟨bp, al, cl, bts, Hp', Hl, T1 ++ (Ti' ++ T2), ?_, g2, ?_, ?_⟩
 ·
  show _ = [(bx, Obj.cells (List.toArray (inCells bp p'.epoch al p'.l.length cl)) 136 (0, 0))] ++ _
  rw [g3, g4]
 ·
  show RoSl 1 (ptrs bts) al p'.l.length Hl
  rw [g4]; exact h2
 ·
  show Piles TbAt (g.tabs.set (j : Int).toNat t') bts _
  rw [Int.toNat_natCast]
  exact e4 t' Ti' g1
theorem set_same {g : Gt} (hi : g.Inv) (i : Int) (hw : g.why i = 0) : (⟨g.p, (g.setTab i (g.tab i)).tabs⟩ : Gt) = g := by
 have hj : i.toNat < g.tabs.length := by
  unfold Gt.why Pl.in_ at hw
  rw [hi.len]
  split at hw
  · cases hw
  ·
   rename_i h
   have h2 : 0 ≤ i ∧ i < (g.p.l.length : Int) := Decidable.byContradiction h
   omega
 obtain ⟨p, tabs⟩ := g
 unfold Gt.setTab Gt.tab
 simp only
 congr 1
 simp only at hj
 rw [List.getD_eq_getElem?_getD, List.getElem?_eq_getElem hj, Option.getD_some, List.set_getElem_self]
theorem GRoot_spec (g : Gt) (hi : g.Inv) (b : Nat) (H : HL) (h : GtAt g b H) (i : Int) : Ctr Tryz.prog 19 [.pointer (some ⟨b, 0, none⟩), .int .i64 i] [H] [] (fun v L' => ∃ H', v = .tuple #[capV (g.root i).1, .int .i64 (g.root i).2] ∧ L' = [H'] ∧ GtAt g b H') := by
 obtain ⟨bx, Hx, rfl, ha⟩ := h
 unfold Gt.root
 rcases Classical.em (g.why i = 0) with hw | hw
 ·
  have hT := TableYes_spec g hi bx Hx ha i hw
  have hss := set_same hi i hw
  refine Ctr.enter (n := 23) [.cell 4 33, .tmp 5] [(0, _), (1, _)] Tryz.func19 rfl rfl rfl (lb rfl) Tryz.call19 ⟨rfl, rfl, trivial⟩ ?_
  intro cx fin fin0
  refine aG ?_
  repeat (first | refine gx ?_ | refine gN fun _ => ?_ | refine gB fun _ => ?_ | fail)
  refine W.order [1, 0] rfl ?_
  refine spl2 rfl ?_
  refine aG ?_
  repeat (first | refine gx ?_ | refine gN fun _ => ?_ | refine gB fun _ => ?_ | fail)
  refine aC (o := hT) (h := ?_)
  rintro _ _ ⟨bp, al, cl, bts, bt, Hp, Hl, T1, Ti, T2, rfl, rfl, hp, htb, hback⟩
  refine aG ?_
  have hR := TRoot_spec _ bt Ti htb
  repeat (first | refine gx ?_ | refine gN fun _ => ?_ | refine gB fun _ => ?_ | fail)
  refine aC (o := hR) (h := ?_) (hro := RoIn.own 4 rfl)
  rintro _ _ ⟨rfl, rfl⟩
  refine aG ?_
  repeat (first | refine gx ?_ | refine gN fun _ => ?_ | refine gB fun _ => ?_ | fail)
  refine W.groupV [6, 0, 0, 0, 0, 0, 0] rfl ?_
  refine W.ret (fin _ _ (FinOk.first 1 (aRc (.tmp rfl .nil)) rfl ?_))
  rw [if_neg (fun h => h hw)]
  have hx := hback _ Ti g.p Hp htb hp rfl rfl
  rw [hss] at hx
  exact ⟨_, rfl, rfl, bx, _, rfl, .inl hx⟩
 ·
  have hT := TableNo_spec g hi bx Hx ha i hw
  generalize hk : g.why i = k at *
  refine Ctr.enter (n := 23) [.cell 4 33, .tmp 5] [(0, _), (1, _)] Tryz.func19 rfl rfl rfl (lb rfl) Tryz.call19 ⟨rfl, rfl, trivial⟩ ?_
  intro cx fin fin0
  refine aG ?_
  repeat (first | refine gx ?_ | refine gN fun _ => ?_ | refine gB fun _ => ?_ | fail)
  refine W.order [1, 0] rfl ?_
  refine spl2 rfl ?_
  refine aG ?_
  repeat (first | refine gx ?_ | refine gN fun _ => ?_ | refine gB fun _ => ?_ | fail)
  refine aC (o := hT) (h := ?_)
  rintro _ _ ⟨rfl, rfl⟩
  refine aG ?_
  repeat (first | refine gh hw ?_ | refine gN fun _ => ?_ | refine gB fun _ => ?_ | fail)
  refine aBu (ps := []) ?_
  repeat (first | refine gx ?_ | refine gN fun _ => ?_ | refine gB fun _ => ?_ | fail)
  refine W.groupV [1, 0] rfl ?_
  refine W.ret (fin _ _ (FinOk.first 1 (aRc (.tmp rfl .nil)) rfl ?_))
  rw [if_pos hw]
  exact ⟨_, rfl, rfl, bx, _, rfl, ha⟩
theorem GLive_spec (g : Gt) (hi : g.Inv) (b : Nat) (H : HL) (h : GtAt g b H) (i : Int) : Ctr Tryz.prog 20 [.pointer (some ⟨b, 0, none⟩), .int .i64 i] [H] [] (fun v L' => ∃ H', v = .int .i64 (g.live i) ∧ L' = [H'] ∧ GtAt g b H') := by
 obtain ⟨bx, Hx, rfl, ha⟩ := h
 unfold Gt.live
 rcases Classical.em (g.why i = 0) with hw | hw
 ·
  have hT := TableYes_spec g hi bx Hx ha i hw
  have hss := set_same hi i hw
  refine Ctr.enter (n := 20) [.tmp 4] [(0, _), (1, _)] Tryz.func20 rfl rfl rfl (lb rfl) Tryz.call20 ⟨rfl, rfl, trivial⟩ ?_
  intro cx fin fin0
  refine aG ?_
  refine spl2 rfl ?_
  refine aG ?_
  repeat (first | refine gx ?_ | refine gN fun _ => ?_ | refine gB fun _ => ?_ | fail)
  refine aC (o := hT) (h := ?_)
  rintro _ _ ⟨bp, al, cl, bts, bt, Hp, Hl, T1, Ti, T2, rfl, rfl, hp, htb, hback⟩
  refine aG ?_
  have hR := TLive_spec _ bt Ti htb
  repeat (first | refine gx ?_ | refine gN fun _ => ?_ | refine gB fun _ => ?_ | fail)
  refine aC (o := hR) (h := ?_) (hro := RoIn.own 4 rfl)
  rintro _ _ ⟨rfl, rfl⟩
  refine aG ?_
  repeat (first | refine gx ?_ | refine gN fun _ => ?_ | refine gB fun _ => ?_ | fail)
  refine W.groupV [6, 0, 0, 0, 0, 0, 0] rfl ?_
  refine W.ret (fin _ _ (FinOk.first 1 (.tmp rfl .nil) rfl ?_))
  rw [if_neg (fun h => h hw)]
  have hx := hback _ Ti g.p Hp htb hp rfl rfl
  rw [hss] at hx
  exact ⟨_, rfl, rfl, bx, _, rfl, .inl hx⟩
 ·
  have hT := TableNo_spec g hi bx Hx ha i hw
  generalize hk : g.why i = k at *
  refine Ctr.enter (n := 20) [.tmp 4] [(0, _), (1, _)] Tryz.func20 rfl rfl rfl (lb rfl) Tryz.call20 ⟨rfl, rfl, trivial⟩ ?_
  intro cx fin fin0
  refine aG ?_
  refine spl2 rfl ?_
  refine aG ?_
  repeat (first | refine gx ?_ | refine gN fun _ => ?_ | refine gB fun _ => ?_ | fail)
  refine aC (o := hT) (h := ?_)
  rintro _ _ ⟨rfl, rfl⟩
  refine aG ?_
  repeat (first | refine gh hw ?_ | refine gN fun _ => ?_ | refine gB fun _ => ?_ | fail)
  refine W.groupV [1, 0] rfl ?_
  refine W.ret (fin _ _ (FinOk.first 1 (.tmp rfl .nil) rfl ?_))
  rw [if_pos hw]
  exact ⟨_, rfl, rfl, bx, _, rfl, ha⟩
end Go.Proofs.YtfpghdcjdnifcaaGreat
namespace Go.Proofs.YtfpghdcjdnifcaaGreat
open Go Go.Sl Go.IntWalk
set_option maxHeartbeats 8000000
set_option maxRecDepth 20000
set_option linter.unusedVariables false
theorem psubmit_same (p : Pl) (i : Int) (q : Rq) : (p.submit i q).1.epoch = p.epoch ∧ (p.submit i q).1.l.length = p.l.length ∧ (p.submit i q).1.now = p.now := by
 unfold Pl.submit
 split
 · exact ⟨rfl, rfl, rfl⟩
 ·
  split
  · exact ⟨rfl, rfl, rfl⟩
  · exact ⟨rfl, setT_len _ _ _, rfl⟩
theorem GAccept_spec (g : Gt) (hi : g.Inv) (b : Nat) (H : HL) (h : GtAt g b H) (i : Int) (hid : g.p.in_ i → (g.p.tn i).t.ids < 1000000) (bs : List Int) (hu : u8ok bs) (hl : bs.length ≤ 1000000) (a : Option Addr) (cap : Nat) (ro : HL) (hro : RoSl 1 (u8s bs) a bs.length ro) :
  Ctr Tryz.prog 75 [.pointer (some ⟨b, 0, none⟩), .int .i64 i, .slice a bs.length cap] [H] ro (fun v L' => ∃ H', v = .tuple #[.int .i64 (g.accept i bs).2.1, .int .i64 (g.accept i bs).2.2] ∧ L' = [H'] ∧ GtAt (g.accept i bs).1 b H') := by
 obtain ⟨bx, Hx, rfl, ha⟩ := h
 have hga : GtAt g b ([(b, Obj.cells (List.toArray [.pointer (some ⟨bx, 0, none⟩)]) 138 (0, 0))] ++ Hx) := ⟨bx, Hx, rfl, ha⟩
 unfold Gt.accept Gt.let_
 rcases Classical.em (g.why i = 0) with hw | hw
 case' inr =>
  have hT := TableNo_spec g hi bx Hx ha i hw
  generalize hk : g.why i = k at *
  refine Ctr.enter (n := 67) [.tmp 6, .tmp 7] [(0, _), (1, _), (2, _)] Tryz.func75 rfl rfl rfl (lb rfl) Tryz.call75 ⟨rfl, rfl, rfl, trivial⟩ ?_
  intro cx fin fin0
  refine aG ?_
  refine spl2 rfl ?_
  refine aG ?_
  repeat (first | refine gx ?_ | refine gN fun _ => ?_ | refine gB fun _ => ?_ | fail)
  refine aC (o := hT) (h := ?_)
  rintro _ _ ⟨rfl, rfl⟩
  refine aG ?_
  repeat (first | refine gh hw ?_ | refine gN fun _ => ?_ | refine gB fun _ => ?_ | fail)
  refine W.groupV [1, 0] rfl ?_
  refine W.ret (fin _ _ (FinOk.first 1 (.tmp rfl (.tmp rfl .nil)) rfl ?_))
  rw [if_pos hw]
  exact ⟨_, rfl, rfl, hga⟩
 have hT := TableYes_spec g hi bx Hx ha i hw
 have hss := set_same hi i hw
 have hQ := QRead_spec bs hu hl a cap ro hro
 obtain ⟨q1, q2, q3⟩ := rdReq_ok hu
 have hN := RiNeeds_spec (rdReq bs).2.1.op
 have hnl := needs_le (rdReq bs).2.1.op
 have hCk := fun bt Ti htb => TCheck_spec (g.tab i) bt Ti htb (rdReq bs).1 (needs (rdReq bs).2.1.op) hnl
 have hS := fun bp Hp hp => PSubmit_spec g.p hi.p bp Hp hp i hid (rdReq bs).2.1 q2 (by omega) q1.2.2.2.2.1 q1.2.2.1
 have hps := psubmit_same g.p i (rdReq bs).2.1
 generalize g.p.submit i (rdReq bs).2.1 = out at *
 generalize (g.tab i).check (rdReq bs).1 (needs (rdReq bs).2.1.op) = k at *
 generalize needs (rdReq bs).2.1.op = nd at *
 generalize rdReq bs = rq at *
 obtain ⟨⟨x1, x2⟩, ⟨qo, qp, qf, ql, qd⟩, e⟩ := rq
 simp only [capV, Rq.v] at *
 refine Ctr.enter (n := 67) [.tmp 6, .tmp 7] [(0, _), (1, _), (2, _)] Tryz.func75 rfl rfl rfl (lb rfl) Tryz.call75 ⟨rfl, rfl, rfl, trivial⟩ ?_
 intro cx fin fin0
 refine aG ?_
 refine spl2 rfl ?_
 refine aG ?_
 repeat (first | refine gx ?_ | refine gN fun _ => ?_ | refine gB fun _ => ?_ | fail)
 refine aC (o := hT) (h := ?_)
 rintro _ _ ⟨bp, al, cl, bts, bt, Hp, Hl, T1, Ti, T2, rfl, rfl, hp, htb, hback⟩
 refine aG ?_
 repeat (first | refine gx ?_ | refine gN fun _ => ?_ | refine gB fun _ => ?_ | fail)
 refine aC (o := hQ) (h := ?_) (hro := RoIn.same)
 rintro _ _ ⟨a', c', rr, D, rfl, rfl, hrr, hsub⟩
 refine aG ?_
 repeat (first | refine gx ?_ | refine gN fun _ => ?_ | refine gB fun _ => ?_ | fail)
 refine aC (o := hN) (h := ?_)
 rintro _ _ ⟨rfl, rfl⟩
 refine aG ?_
 repeat (first | refine gx ?_ | refine gN fun _ => ?_ | refine gB fun _ => ?_ | fail)
 have hsame := hback _ Ti g.p Hp htb hp rfl rfl
 rw [hss] at hsame
 rcases Classical.em (e = 0) with g1 | g1
 case' inr =>
  repeat (first | refine gh g1 ?_ | refine gN fun _ => ?_ | refine gB fun _ => ?_ | fail)
  refine W.groupV [9, 3, 3, 3, 3, 3, 3] rfl ?_
  refine W.ret (fin _ _ (FinOk.first 1 (.tmp rfl (.tmp rfl .nil)) rfl ?_))
  rw [if_neg (fun h => h hw), show (if e ≠ 0 ∨ nd = 0 then (2 : Int) else k) = 2 from if_pos (.inl g1), if_pos (by decide)]
  exact ⟨_, rfl, rfl, bx, _, rfl, .inl hsame⟩
 rcases Classical.em (nd = 0) with g2 | g2
 ·
  repeat (first | refine gh (gc2 g1 g2) ?_ | refine gN fun _ => ?_ | refine gB fun _ => ?_ | fail)
  refine W.groupV [9, 3, 3, 3, 3, 3, 3] rfl ?_
  refine W.ret (fin _ _ (FinOk.first 1 (.tmp rfl (.tmp rfl .nil)) rfl ?_))
  rw [if_neg (fun h => h hw), show (if e ≠ 0 ∨ nd = 0 then (2 : Int) else k) = 2 from if_pos (.inr g2), if_pos (by decide)]
  exact ⟨_, rfl, rfl, bx, _, rfl, .inl hsame⟩
 repeat (first | refine gh (gc2 g1 g2) ?_ | refine gN fun _ => ?_ | refine gB fun _ => ?_ | fail)
 refine aC (o := hCk bt Ti htb) (h := ?_) (hro := RoIn.own 7 rfl)
 rintro _ _ ⟨rfl, rfl⟩
 refine aG ?_
 rcases Classical.em (k = 0) with g3 | g3
 case' inr =>
  repeat (first | refine gh g3 ?_ | refine gN fun _ => ?_ | refine gB fun _ => ?_ | fail)
  refine W.groupV [9, 3, 3, 3, 3, 3, 3] rfl ?_
  refine W.ret (fin _ _ (FinOk.first 1 (.tmp rfl (.tmp rfl .nil)) rfl ?_))
  rw [if_neg (fun h => h hw), show (if e ≠ 0 ∨ nd = 0 then (2 : Int) else k) = k from if_neg (fun h => h.elim (fun h => h g1) g2), if_pos g3]
  exact ⟨_, rfl, rfl, bx, _, rfl, .inl hsame⟩
 repeat (first | refine gh g3 ?_ | refine gN fun _ => ?_ | refine gB fun _ => ?_ | fail)
 refine W.drawH tab_ok 12 [.b false, .b false, .b false, .b false, .b false, .b false, .b false, .b false, .b false, .b true, .b false, .b false] [4] follows (by decide +kernel) (by decide +kernel) rfl (by decide) rfl ?_
 intro _
 refine dG ?_
 refine gdx ?_
 refine dC (o := hS bp Hp hp a' c' rr hrr) (h := ?_) (hro := RoIn.all (fun q hq => by simp [hsub q hq]))
 rintro _ _ ⟨Hp', rfl, rfl, hp'⟩
 refine dG ?_
 refine gdx ?_
 refine WD.nil (W.dropNil (aG ?_))
 repeat (first | refine gx ?_ | refine gN fun _ => ?_ | refine gB fun _ => ?_ | fail)
 refine W.groupV [9, 4, 0, 3, 3, 3, 3] rfl ?_
 refine W.ret (fin _ _ (FinOk.first 1 (.tmp rfl (.tmp rfl .nil)) rfl ?_))
 rw [if_neg (fun h => h hw), show (if e ≠ 0 ∨ nd = 0 then (2 : Int) else k) = k from if_neg (fun h => h.elim (fun h => h g1) g2), if_neg (fun h => h g3)]
 have hx := hback (g.tab i) Ti out.1 Hp' htb hp' hps.1 hps.2.1
 have hx2 : (⟨out.1, (g.setTab i (g.tab i)).tabs⟩ : Gt) = ⟨out.1, g.tabs⟩ := by rw [show (g.setTab i (g.tab i)).tabs = g.tabs from congrArg Gt.tabs hss]
 rw [hx2] at hx
 exact ⟨_, rfl, rfl, bx, _, rfl, .inl hx⟩
def rsV (id e tick : Int) : Value := .agg #[.int .i64 id, .int .i64 e, .bool false, .int .i64 tick, .slice none 0 0, .int .u64 0, .int .u64 0, .int .u64 0, .int .u64 0, .int .u64 0, .int .u64 0]
theorem accept_now (g : Gt) (i : Int) (bs : List Int) : (g.accept i bs).1.p.now = g.p.now := by
 unfold Gt.accept
 split
 · rfl
 ·
  split
  · rfl
  · exact (psubmit_same _ _ _).2.2
theorem GDo_spec (g : Gt) (hi : g.Inv) (b : Nat) (H : HL) (h : GtAt g b H) (i : Int) (hid : g.p.in_ i → (g.p.tn i).t.ids < 1000000) (bs : List Int) (hu : u8ok bs) (hl : bs.length ≤ 1000000) (a : Option Addr) (cap : Nat) (ro : HL) (hro : RoSl 1 (u8s bs) a bs.length ro) :
  Ctr Tryz.prog 30 [.pointer (some ⟨b, 0, none⟩), .int .i64 i, .slice a bs.length cap] [H] ro (fun v L' => ∃ H', v = rsV (g.accept i bs).2.1 (g.accept i bs).2.2 g.p.now ∧ L' = [H'] ∧ GtAt (g.accept i bs).1 b H') := by
 have hA := GAccept_spec g hi b H h i hid bs hu hl a cap ro hro
 have hnw := accept_now g i bs
 generalize g.accept i bs = out at *
 refine Ctr.enter (n := 27) [.cell 6 59] [(0, _), (1, _), (2, _)] Tryz.func30 rfl rfl rfl (lb rfl) Tryz.call30 ⟨rfl, rfl, rfl, trivial⟩ ?_
 intro cx fin fin0
 refine aG ?_
 repeat (first | refine gx ?_ | refine gN fun _ => ?_ | refine gB fun _ => ?_ | fail)
 refine aC (o := hA) (h := ?_) (hro := RoIn.same)
 rintro _ _ ⟨H2, rfl, rfl, bx, Hx, rfl, ha⟩
 refine aG ?_
 have ha2 := ha
 obtain ⟨bp, ep, al, n, cl, Hp, Z, rfl, hp⟩ := ha2.pool
 have hN := PNow_spec out.1.p bp Hp hp
 rw [hnw] at hN
 refine spl4g rfl ?_
 refine aG ?_
 repeat (first | refine gx ?_ | refine gN fun _ => ?_ | refine gB fun _ => ?_ | fail)
 refine aC (o := hN) (h := ?_) (hro := RoIn.own 2 rfl)
 rintro _ _ ⟨rfl, rfl⟩
 refine aG ?_
 refine aBu (ps := [_, _, _]) ?_
 repeat (first | refine gx ?_ | refine gN fun _ => ?_ | refine gB fun _ => ?_ | fail)
 refine W.groupV [0, 0, 0, 0] rfl ?_
 refine W.ret (fin _ _ (FinOk.first 1 (aRc .nil) rfl ?_))
 exact ⟨_, rfl, rfl, bx, _, rfl, ha⟩
theorem GtAt.pool {g : Gt} {b : Nat} {H : HL} (h : GtAt g b H) : ∃ (bx bp : Nat) (ep : Int) (al : Option Addr) (n cl : Nat) (Hp Z : HL), H = [(b, Obj.cells (List.toArray [.pointer (some ⟨bx, 0, none⟩)]) 138 (0, 0))] ++ ([(bx, Obj.cells (List.toArray (inCells bp ep al n cl)) 136 (0, 0))] ++ (Hp ++ Z)) ∧ PlAt g.p bp Hp := by
 obtain ⟨bx, Hx, rfl, ha⟩ := h
 obtain ⟨bp, ep, al, n, cl, Hp, Z, rfl, hp⟩ := ha.pool
 exact ⟨bx, bp, ep, al, n, cl, Hp, Z, rfl, hp⟩
theorem GNow_spec (g : Gt) (b : Nat) (H : HL) (h : GtAt g b H) : Ctr Tryz.prog 23 [.pointer (some ⟨b, 0, none⟩)] [] H (fun v L' => v = .int .i64 g.p.now ∧ L' = []) := by
 obtain ⟨bx, bp, ep, al, n, cl, Hp, Z, rfl, hp⟩ := h.pool
 refine Ctr.enter (n := 11) [.tmp 2] [(0, _)] Tryz.func23 rfl rfl rfl (lb rfl) Tryz.call23 ⟨rfl, trivial⟩ ?_
 intro cx fin fin0
 refine aG ?_
 repeat (first | refine gx ?_ | refine gN fun _ => ?_ | refine gB fun _ => ?_ | fail)
 refine aC (o := PNow_spec g.p bp Hp hp) (h := ?_) (hro := RoIn.all (fun q hq => by simp [hq]))
 rintro _ _ ⟨rfl, rfl⟩
 refine aG ?_
 repeat (first | refine gx ?_ | refine gN fun _ => ?_ | refine gB fun _ => ?_ | fail)
 refine W.ret (fin _ _ (FinOk.first 0 (.tmp rfl .nil) rfl ?_))
 exact ⟨rfl, rfl⟩
theorem GEpoch_spec (g : Gt) (b : Nat) (H : HL) (h : GtAt g b H) : Ctr Tryz.prog 24 [.pointer (some ⟨b, 0, none⟩)] [] H (fun v L' => v = .int .i64 g.p.epoch ∧ L' = []) := by
 obtain ⟨bx, bp, ep, al, n, cl, Hp, Z, rfl, hp⟩ := h.pool
 refine Ctr.enter (n := 11) [.tmp 2] [(0, _)] Tryz.func24 rfl rfl rfl (lb rfl) Tryz.call24 ⟨rfl, trivial⟩ ?_
 intro cx fin fin0
 refine aG ?_
 repeat (first | refine gx ?_ | refine gN fun _ => ?_ | refine gB fun _ => ?_ | fail)
 refine aC (o := PEpoch_spec g.p bp Hp hp) (h := ?_) (hro := RoIn.all (fun q hq => by simp [hq]))
 rintro _ _ ⟨rfl, rfl⟩
 refine aG ?_
 repeat (first | refine gx ?_ | refine gN fun _ => ?_ | refine gB fun _ => ?_ | fail)
 refine W.ret (fin _ _ (FinOk.first 0 (.tmp rfl .nil) rfl ?_))
 exact ⟨rfl, rfl⟩
theorem GReady_spec (g : Gt) (b : Nat) (H : HL) (h : GtAt g b H) : Ctr Tryz.prog 21 [.pointer (some ⟨b, 0, none⟩)] [] H (fun v L' => v = .bool (decide (g.p.down = 0)) ∧ L' = []) := by
 obtain ⟨bx, bp, ep, al, n, cl, Hp, Z, rfl, hp⟩ := h.pool
 refine Ctr.enter (n := 11) [.tmp 2] [(0, _)] Tryz.func21 rfl rfl rfl (lb rfl) Tryz.call21 ⟨rfl, trivial⟩ ?_
 intro cx fin fin0
 refine aG ?_
 repeat (first | refine gx ?_ | refine gN fun _ => ?_ | refine gB fun _ => ?_ | fail)
 refine aC (o := PReady_spec g.p bp Hp hp) (h := ?_) (hro := RoIn.all (fun q hq => by simp [hq]))
 rintro _ _ ⟨rfl, rfl⟩
 refine aG ?_
 repeat (first | refine gx ?_ | refine gN fun _ => ?_ | refine gB fun _ => ?_ | fail)
 refine W.ret (fin _ _ (FinOk.first 0 (.tmp rfl .nil) rfl ?_))
 exact ⟨rfl, rfl⟩
theorem GEmpty_spec (g : Gt) (hi : g.Inv) (b : Nat) (H : HL) (h : GtAt g b H) : Ctr Tryz.prog 22 [.pointer (some ⟨b, 0, none⟩)] [] H (fun v L' => v = .bool g.p.empty ∧ L' = []) := by
 obtain ⟨bx, bp, ep, al, n, cl, Hp, Z, rfl, hp⟩ := h.pool
 refine Ctr.enter (n := 11) [.tmp 2] [(0, _)] Tryz.func22 rfl rfl rfl (lb rfl) Tryz.call22 ⟨rfl, trivial⟩ ?_
 intro cx fin fin0
 refine aG ?_
 repeat (first | refine gx ?_ | refine gN fun _ => ?_ | refine gB fun _ => ?_ | fail)
 refine aC (o := PEmptyP_spec g.p hi.p bp Hp hp) (h := ?_) (hro := RoIn.all (fun q hq => by simp [hq]))
 rintro _ _ ⟨rfl, rfl⟩
 refine aG ?_
 repeat (first | refine gx ?_ | refine gN fun _ => ?_ | refine gB fun _ => ?_ | fail)
 refine W.ret (fin _ _ (FinOk.first 0 (.tmp rfl .nil) rfl ?_))
 exact ⟨rfl, rfl⟩
end Go.Proofs.YtfpghdcjdnifcaaGreat
namespace Go.Proofs.YtfpghdcjdnifcaaGreat
open Go Go.Sl Go.IntWalk
set_option maxHeartbeats 8000000
set_option maxRecDepth 20000
set_option linter.unusedVariables false
theorem RefUint_spec (x : Nat) (hx : x < 18446744073709551616) : Ctr Tryz.prog 137 [.int .u64 (x : Int)] [] [] (fun v L' => ∃ a c H, v = .slice a (le8 (x : Int)).length c ∧ L' = [H] ∧ Own 1 5 (u8s (le8 (x : Int))) a (le8 (x : Int)).length c H) := by
 rw [le8_chk]
 refine Ctr.enter (n := 18) [.tmp 2] [(0, _)] Tryz.func137 rfl rfl rfl (lb rfl) Tryz.call137 ⟨rfl, trivial⟩ ?_
 intro cx fin fin0
 refine aG ?_
 repeat (first | refine gx ?_ | refine gN fun _ => ?_ | refine gB fun _ => ?_ | fail)
 refine W.nilChunk ?_
 refine aLp (fun k ρ1 L1 => ∃ (j y : Nat) (a : Option Addr) (c : Nat) (H : HL), j ≤ 8 ∧ k = 8 - j ∧ y = x / 256 ^ j ∧ Own 1 5 (u8s (chk x j)) a j c H ∧ ρ1 = [(4, .int .i64 (j : Int)), (3, .slice a j c), (0, .int .u64 (y : Int))] ∧ L1 = [H]) (o := ⟨0, x, none, 0, [], by decide, rfl, by simp, Own.nil 1 _, rfl, rfl⟩) (h := ?_)
 rintro k ρ1 L1 ⟨j, y, a, c, H, hj, rfl, rfl, how, rfl, rfl⟩
 refine aG ?_
 by_cases hlt : j < 8
 ·
  have hz : (j : Int) < 8 := by omega
  have e1 : ((x / 256 ^ j : Nat) : Int).tmod 256 = ((x / 256 ^ j % 256 : Nat) : Int) := by rfl
  have e2 : IntKind.u64.wrap (((x / 256 ^ j : Nat) : Int).tdiv 256) = ((x / 256 ^ (j + 1) : Nat) : Int) := by
   have h1 : ((x / 256 ^ j : Nat) : Int).tdiv 256 = ((x / 256 ^ j / 256 : Nat) : Int) := rfl
   have h2 : x / 256 ^ j / 256 = x / 256 ^ (j + 1) := by rw [Nat.div_div_eq_div_mul, Nat.pow_succ]
   have h3 : x / 256 ^ (j + 1) ≤ x := Nat.div_le_self _ _
   rw [h1, h2, IntKind.wrap_u64]
   generalize x / 256 ^ (j + 1) = y at *
   omega
  repeat (first | refine gh hz ?_ | refine gN fun _ => ?_ | refine gB fun _ => ?_ | fail)
  refine aV (OpVal.rem rfl rfl (by decide) e1) ?_
  refine aV (OpVal.conv tab_ok rfl rfl rfl (u8n (show x / 256 ^ j % 256 < 256 by omega))) ?_
  refine aSl (ps := [_]) ?_
  intro bt
  refine aG ?_
  refine aAp (how) ?_
  rintro _ _ ⟨_, _, _, rfl, rfl, ho⟩
  refine aG ?_
  have e3 : u8s (chk x j) ++ [.int .u8 ((x / 256 ^ j % 256 : Nat) : Int)] = u8s (chk x (j + 1)) := by
   rw [show chk x (j + 1) = chk x j ++ [((x / 256 ^ j % 256 : Nat) : Int)] from rfl, u8s_append]
   rfl
  rw [e3] at ho
  repeat (first | refine gx ?_ | refine gN fun _ => ?_ | refine gB fun _ => ?_ | fail)
  refine aV (OpVal.quo rfl rfl (by decide) e2) ?_
  repeat (first | refine gh hz ?_ | refine gN fun _ => ?_ | refine gB fun _ => ?_ | fail)
  refine W.order [0] rfl ?_
  refine aR (o := ⟨8 - (j + 1), by omega, j + 1, _, _, _, _, by omega, rfl, rfl, ho, rfl, rfl⟩)
 ·
  obtain rfl : j = 8 := by omega
  repeat (first | refine gx ?_ | refine gN fun _ => ?_ | refine gB fun _ => ?_ | fail)
  refine W.ret (fin _ _ (FinOk.first 1 (.tmp rfl .nil) rfl ?_))
  exact ⟨_, _, _, rfl, rfl, how⟩
theorem RefInt_spec (x : Int) (hx : i64s x) : Ctr Tryz.prog 76 [.int .i64 x] [] [] (fun v L' => ∃ a c H, v = .slice a (le8 x).length c ∧ L' = [H] ∧ Own 1 5 (u8s (le8 x)) a (le8 x).length c H) := by
 obtain ⟨u, e1, hu, e2⟩ := u64_of hx
 have hU := RefUint_spec u hu
 rw [e2] at hU
 refine Ctr.enter (n := 6) [.tmp 2] [(0, _)] Tryz.func76 rfl rfl rfl (lb rfl) Tryz.call76 ⟨rfl, trivial⟩ ?_
 intro cx fin fin0
 refine aG ?_
 repeat (first | refine gx ?_ | refine gN fun _ => ?_ | refine gB fun _ => ?_ | fail)
 refine aV (OpVal.conv tab_ok rfl rfl rfl e1) ?_
 refine aC (o := hU) (h := ?_)
 rintro _ _ ⟨a, c, H, rfl, rfl, ho⟩
 refine aG ?_
 repeat (first | refine gx ?_ | refine gN fun _ => ?_ | refine gB fun _ => ?_ | fail)
 refine W.ret (fin _ _ (FinOk.first 1 (.tmp rfl .nil) rfl ?_))
 exact ⟨_, _, _, rfl, rfl, ho⟩
theorem RefBytes_spec (bs : List Int) (hl : bs.length ≤ 1000000) (a : Option Addr) (cap : Nat) (ro : HL) (hro : RoSl 1 (u8s bs) a bs.length ro) :
  Ctr Tryz.prog 77 [.slice a bs.length cap] [] ro (fun v L' => ∃ a' c' H, v = .slice a' (le8 bs.length ++ bs).length c' ∧ L' = [H] ∧ Own 1 5 (u8s (le8 bs.length ++ bs)) a' (le8 bs.length ++ bs).length c' H) := by
 have hI := RefInt_spec bs.length ⟨by omega, by omega⟩
 have h8 := le8_len (bs.length : Int)
 refine Ctr.enter (n := 8) [.tmp 2] [(0, _)] Tryz.func77 rfl rfl rfl (lb rfl) Tryz.call77 ⟨rfl, trivial⟩ ?_
 intro cx fin fin0
 refine aG ?_
 repeat (first | refine gx ?_ | refine gN fun _ => ?_ | refine gB fun _ => ?_ | fail)
 refine aC (o := hI) (h := ?_)
 rintro _ _ ⟨a1, c1, H1, rfl, rfl, ho1⟩
 refine aG ?_
 repeat (first | refine gx ?_ | refine gN fun _ => ?_ | refine gB fun _ => ?_ | fail)
 refine aPr (appU8 tab_ok rfl rfl rfl ho1 (by intro p hp; simp [hp]) rfl hro (fun q hq => .inr hq) (by omega) (by omega)) ?_
 rintro _ _ ⟨a2, c2, H2, rfl, rfl, ho2⟩
 refine aG ?_
 repeat (first | refine gx ?_ | refine gN fun _ => ?_ | refine gB fun _ => ?_ | fail)
 refine W.ret (fin _ _ (FinOk.first 1 (.tmp rfl .nil) rfl ?_))
 exact ⟨_, _, _, rfl, rfl, ho2⟩
theorem ReqBytes_spec (c : Int × Int) (q : Rq) (hq : Rq.I c q) (hl : q.data.length ≤ 1000000) (a : Option Addr) (cap : Nat) (ro : HL) (hro : RoSl 1 (u8s q.data) a q.data.length ro) :
  Ctr Tryz.prog 31 [capV c, q.v a cap] [] ro (fun v L' => ∃ a' c' H, v = .slice a' (reqBytes c q).length c' ∧ L' = [H] ∧ Own 1 5 (u8s (reqBytes c q)) a' (reqBytes c q).length c' H) := by
 have hB := RefBytes_spec q.data hl a cap ro hro
 obtain ⟨x1, x2⟩ := c
 obtain ⟨qo, qp, qf, ql, qd⟩ := q
 have hI : ∀ j (h : j < 6), ∃ x : Int, i64s x ∧ ([.int .i64 x1, .int .i64 x2, .int .i64 qo, .int .i64 qp, .int .i64 qf, .int .i64 ql] : List Value)[0 + j * 1]? = some (.int .i64 x) ∧ ([x1, x2, qo, qp, qf, ql].take (j + 1)) = ([x1, x2, qo, qp, qf, ql].take j) ++ [x] := by
  obtain ⟨h1, h2, h3, h4, h5, h6⟩ := hq
  intro j hj
  have hj6 : j = 0 ∨ j = 1 ∨ j = 2 ∨ j = 3 ∨ j = 4 ∨ j = 5 := by omega
  rcases hj6 with rfl | rfl | rfl | rfl | rfl | rfl
  · exact ⟨_, h1, rfl, rfl⟩
  · exact ⟨_, h2, rfl, rfl⟩
  · exact ⟨_, h3, rfl, rfl⟩
  · exact ⟨_, h4, rfl, rfl⟩
  · exact ⟨_, h5, rfl, rfl⟩
  · exact ⟨_, h6, rfl, rfl⟩
 unfold reqBytes
 simp only [capV, Rq.v] at *
 refine Ctr.enter (n := 37) [.tmp 4] [(0, _), (1, _)] Tryz.func31 rfl rfl rfl (lb rfl) Tryz.call31 ⟨rfl, rfl, trivial⟩ ?_
 intro cx fin fin0
 refine aG ?_
 repeat (first | refine gx ?_ | refine gN fun _ => ?_ | refine gB fun _ => ?_ | fail)
 rename_i b3 b2
 refine aSl (ps := [_, _, _, _, _, _]) ?_
 intro bt
 refine aG ?_
 repeat (first | refine gx ?_ | refine gN fun _ => ?_ | refine gB fun _ => ?_ | fail)
 refine W.nilChunk ?_
 refine aLp (fun k ρ1 L1 => ∃ (j : Nat) (cs : List Int) (a1 : Option Addr) (c1 : Nat) (H1 : HL), j ≤ 6 ∧ k = 6 - j ∧ cs = les ([x1, x2, qo, qp, qf, ql].take j) ∧ Own 1 5 (u8s cs) a1 cs.length c1 H1 ∧ ρ1 = [(7, .int .i64 (j : Int)), (6, .slice a1 cs.length c1), (5, .slice (some ⟨bt, 0, none⟩) 6 6), (3, .pointer (some ⟨b2, 0, none⟩))] ∧ L1 = [H1, [(bt, .cells #[.int .i64 x1, .int .i64 x2, .int .i64 qo, .int .i64 qp, .int .i64 qf, .int .i64 ql] 3 (0, 0))], [(b2, .cells #[.int .i64 qo, .int .i64 qp, .int .i64 qf, .int .i64 ql, .slice a qd.length cap] 63 (0, 0))]]) (o := ⟨0, [], none, 0, [], by decide, rfl, rfl, Own.nil 1 _, rfl, rfl⟩) (h := ?_)
 rintro k ρ1 L1 ⟨j, cs, a1, c1, H1, hj, rfl, hcs, how, rfl, rfl⟩
 refine aG ?_
 by_cases hlt : j < 6
 ·
  have hz : (j : Int) < 6 := by omega
  obtain ⟨x, hx, l0, hnx⟩ := hI j hlt
  have hR := RefInt_spec x hx
  have hcl : cs.length ≤ 1000 := by rw [hcs, les_len, List.length_take]; simp; omega
  have h8 := le8_len x
  have e3 : cs ++ le8 x = les ([x1, x2, qo, qp, qf, ql].take (j + 1)) := by rw [hnx, les_append, hcs]; simp [les]
  repeat (first | refine gh hz ?_ | refine gN fun _ => ?_ | refine gB fun _ => ?_ | fail)
  refine aV (OpVal.ixSl tab_ok rfl rfl rfl rfl rfl hlt) ?_
  refine aV (OpVal.load tab_ok rfl (at_own 1 rfl) l0) ?_
  repeat (first | refine gx ?_ | refine gN fun _ => ?_ | refine gB fun _ => ?_ | fail)
  refine aC (o := hR) (h := ?_)
  rintro _ _ ⟨a2, c2, H2, rfl, rfl, ho2⟩
  refine aG ?_
  refine aPr (appU8 tab_ok rfl rfl rfl how (by intro p hp; simp [hp]) rfl (Own.roSl ho2) (fun q hq => .inl (by simp [hq])) (by omega) (by omega)) ?_
  rintro _ _ ⟨a3, c3, H3, rfl, rfl, ho3⟩
  refine aG ?_
  rw [e3] at ho3
  rw [e3]
  repeat (first | refine gh hz ?_ | refine gN fun _ => ?_ | refine gB fun _ => ?_ | fail)
  refine W.order [0, 1, 1] rfl ?_
  refine aR (o := ⟨6 - (j + 1), by omega, j + 1, _, _, _, _, by omega, rfl, rfl, ho3, rfl, rfl⟩)
 ·
  obtain rfl : j = 6 := by omega
  have hcl : cs.length = 48 := by rw [hcs]; rfl
  have h8 := le8_len (qd.length : Int)
  repeat (first | refine gx ?_ | refine gN fun _ => ?_ | refine gB fun _ => ?_ | fail)
  refine aC (o := hB) (h := ?_) (hro := RoIn.same)
  rintro _ _ ⟨a2, c2, H2, rfl, rfl, ho2⟩
  refine aG ?_
  refine aPr (appU8 tab_ok rfl rfl rfl how (by intro p hp; simp [hp]) rfl (Own.roSl ho2) (fun q hq => .inl (by simp [hq])) (by simp only [List.length_append]; omega) (by simp only [List.length_append]; omega)) ?_
  rintro _ _ ⟨a3, c3, H3, rfl, rfl, ho3⟩
  refine aG ?_
  subst hcs
  repeat (first | refine gx ?_ | refine gN fun _ => ?_ | refine gB fun _ => ?_ | fail)
  refine W.ret (fin _ _ (FinOk.first 1 (.tmp rfl .nil) rfl ?_))
  exact ⟨_, _, _, rfl, rfl, ho3⟩
theorem rout_spec (n lo hi : Int) : Ctr Tryz.prog 125 [.int .i64 n, .int .i64 lo, .int .i64 hi] [] [] (fun v L' => v = .bool (decide (¬ (lo ≤ n ∧ n ≤ hi))) ∧ L' = []) := by
 refine Ctr.enter (n := 15) [.tmp 6] [(0, _), (1, _), (2, _)] Tryz.func125 rfl rfl rfl (lb rfl) Tryz.call125 ⟨rfl, rfl, rfl, trivial⟩ ?_
 intro cx fin fin0
 refine aG ?_
 by_cases h : n < lo
 ·
  repeat (first | refine gh h ?_ | refine gN fun _ => ?_ | refine gB fun _ => ?_ | fail)
  refine W.ret (fin _ _ (FinOk.first 0 (.tmp rfl .nil) rfl ?_))
  exact ⟨by simp [pack]; omega, rfl⟩
 ·
  repeat (first | refine gh h ?_ | refine gN fun _ => ?_ | refine gB fun _ => ?_ | fail)
  refine W.ret (fin _ _ (FinOk.first 0 (.tmp rfl .nil) rfl ?_))
  exact ⟨by simp [pack]; omega, rfl⟩
theorem rhasP_spec (x : Cp) (hx : x.Fit) (s : Int) : Ctr Tryz.prog 126 [x.v, .int .i64 s] [] [] (fun v L' => v = .bool (decide (x.has s)) ∧ L' = []) := by
 obtain ⟨q, b, p⟩ := x
 unfold Cp.Fit at hx
 unfold Cp.has Cp.to
 simp only [Cp.v] at *
 refine Ctr.enter (n := 19) [.tmp 4] [(0, _), (1, _)] Tryz.func126 rfl rfl rfl (lb rfl) Tryz.call126 ⟨rfl, rfl, trivial⟩ ?_
 intro cx fin fin0
 refine aG ?_
 repeat (first | refine gx ?_ | refine gN fun _ => ?_ | refine gB fun _ => ?_ | fail)
 by_cases h : b ≤ s
 ·
  repeat (first | refine gh h ?_ | refine gN fun _ => ?_ | refine gB fun _ => ?_ | fail)
  refine aV (OpVal.mul rfl rfl (i64_in _ (by omega))) ?_
  repeat (first | refine gh h ?_ | refine gN fun _ => ?_ | refine gB fun _ => ?_ | fail)
  refine W.order [] rfl ?_
  refine W.ret (fin _ _ (FinOk.first 0 (.tmp rfl .nil) rfl ?_))
  exact ⟨by simp [pack, h]; omega, rfl⟩
 ·
  repeat (first | refine gh h ?_ | refine gN fun _ => ?_ | refine gB fun _ => ?_ | fail)
  refine W.order [] rfl ?_
  refine W.ret (fin _ _ (FinOk.first 0 (.tmp rfl .nil) rfl ?_))
  exact ⟨by simp [pack, h], rfl⟩
theorem ups {c : Cf} {i : Nat} (h : c.Upto i) {j : Nat} (hj : j < i) (hl : j < c.ps.length) : (c.ps[j]).Ok c.se := h.1 _ (List.mem_take_iff_getElem.2 ⟨j, by omega, rfl⟩)
theorem RefCheck_spec (c : Cf) (hin : c.In) (hps : c.ps.length ≤ 9223372036854775807) (a : Option Addr) (cap : Nat) (ro : HL) (hro : RoSl 3 (cps c.ps) a c.ps.length ro) :
  Ctr Tryz.prog 69 [c.v a cap] [] ro (fun v L' => ∃ s i, v = .tuple #[.string s, .int .i64 i] ∧ L' = [] ∧ ((c.Ok ∧ s = ⟨#[]⟩) ∨ (¬ c.Ok ∧ (s.toList == (⟨#[]⟩ : ByteArray).toList) = false))) := by
 have k1 := rout_spec c.ps.length 1 16
 have k2 := rout_spec c.fr 1 64
 have k3 := rout_spec c.dp 1 8
 have k4 := rout_spec c.se 1 1024
 rw [Cf.ok_iff]
 have hap := fun (n : Nat) (h : n < c.ps.length) hu ho => apart_all (c := c) h hu ho
 have hus := fun (n : Nat) (h : n < c.ps.length) => Cf.upto_succ (c := c) h
 have hup := fun (i : Nat) (h : c.Upto i) (j : Nat) => ups h (j := j)
 have hle := fun (m n : Nat) (h : c.Upto n) => Cf.Upto.le (m := m) h
 have hu0 := Cf.Upto.zero c
 have hupm := fun (i : Nat) (h : c.Upto i) => h.1
 obtain ⟨fr, dp, se, ps⟩ := c
 generalize hU : Cf.Upto ⟨fr, dp, se, ps⟩ = U at *
 simp only at *
 refine Ctr.enter (n := 86) [.tmp 2, .tmp 3] [(0, _)] Tryz.func69 rfl rfl rfl (lb rfl) Tryz.call69 ⟨rfl, trivial⟩ ?_
 intro cx fin fin0
 refine aG ?_
 repeat (first | refine gx ?_ | refine gN fun _ => ?_ | refine gB fun _ => ?_ | fail)
 rename_i b1
 refine aC (o := k1) (h := ?_)
 rintro _ _ ⟨rfl, rfl⟩
 refine aG ?_
 rcases Classical.em (1 ≤ (ps.length : Int) ∧ (ps.length : Int) ≤ 16) with g1 | g1
 case' inr =>
  repeat (first | refine gh g1 ?_ | refine gN fun _ => ?_ | refine gB fun _ => ?_ | fail)
  refine W.order [] rfl ?_
  refine W.ret (fin _ _ (FinOk.first 0 (.tmp rfl (.tmp rfl .nil)) rfl ?_))
  exact ⟨_, _, rfl, rfl, .inr ⟨fun h => g1 (by have := h.1; omega), by kernel_rfl⟩⟩
 repeat (first | refine gh g1 ?_ | refine gN fun _ => ?_ | refine gB fun _ => ?_ | fail)
 refine aC (o := k2) (h := ?_)
 rintro _ _ ⟨rfl, rfl⟩
 refine aG ?_
 rcases Classical.em (1 ≤ fr ∧ fr ≤ 64) with g2 | g2
 case' inr =>
  repeat (first | refine gh g2 ?_ | refine gN fun _ => ?_ | refine gB fun _ => ?_ | fail)
  refine W.order [] rfl ?_
  refine W.ret (fin _ _ (FinOk.first 0 (.tmp rfl (.tmp rfl .nil)) rfl ?_))
  exact ⟨_, _, rfl, rfl, .inr ⟨fun h => g2 h.2.1, by kernel_rfl⟩⟩
 repeat (first | refine gh g2 ?_ | refine gN fun _ => ?_ | refine gB fun _ => ?_ | fail)
 refine aC (o := k3) (h := ?_)
 rintro _ _ ⟨rfl, rfl⟩
 refine aG ?_
 rcases Classical.em (1 ≤ dp ∧ dp ≤ 8) with g3 | g3
 case' inr =>
  repeat (first | refine gh g3 ?_ | refine gN fun _ => ?_ | refine gB fun _ => ?_ | fail)
  refine W.order [] rfl ?_
  refine W.ret (fin _ _ (FinOk.first 0 (.tmp rfl (.tmp rfl .nil)) rfl ?_))
  exact ⟨_, _, rfl, rfl, .inr ⟨fun h => g3 h.2.2.1, by kernel_rfl⟩⟩
 repeat (first | refine gh g3 ?_ | refine gN fun _ => ?_ | refine gB fun _ => ?_ | fail)
 refine aC (o := k4) (h := ?_)
 rintro _ _ ⟨rfl, rfl⟩
 refine aG ?_
 rcases Classical.em (1 ≤ se ∧ se ≤ 1024) with g4 | g4
 case' inr =>
  repeat (first | refine gh g4 ?_ | refine gN fun _ => ?_ | refine gB fun _ => ?_ | fail)
  refine W.order [] rfl ?_
  refine W.ret (fin _ _ (FinOk.first 0 (.tmp rfl (.tmp rfl .nil)) rfl ?_))
  exact ⟨_, _, rfl, rfl, .inr ⟨fun h => g4 h.2.2.2.1, by kernel_rfl⟩⟩
 repeat (first | refine gh g4 ?_ | refine gN fun _ => ?_ | refine gB fun _ => ?_ | fail)
 refine aLp (fun k ρ1 L1 => ∃ i : Nat, i ≤ ps.length ∧ U i ∧ k = ps.length - i ∧ ρ1 = [(5, .int .i64 (i : Int)), (4, .int .i64 (sumq (ps.take i))), (1, .pointer (some ⟨b1, 0, none⟩))] ∧ L1 = [[(b1, .cells #[.int .i64 fr, .int .i64 dp, .int .i64 se, .slice a ps.length cap] 24 (0, 0))]]) (o := ⟨0, Nat.zero_le _, hu0, rfl, rfl, rfl⟩) (h := ?_)
 rintro k ρ1 L1 ⟨i, hi, hu, rfl, rfl, rfl⟩
 refine aG ?_
 repeat (first | refine gx ?_ | refine gN fun _ => ?_ | refine gB fun _ => ?_ | fail)
 rcases Classical.em ((i : Int) < (ps.length : Int)) with h | h
 case' inr =>
  have hil : i = ps.length := by omega
  subst hil
  rw [List.take_length]
  rcases Classical.em (sumq ps = fr) with g5 | g5
  ·
   repeat (first | refine gh (gc2 h g5) ?_ | refine gN fun _ => ?_ | refine gB fun _ => ?_ | fail)
   refine W.order [] rfl ?_
   refine W.ret (fin _ _ (FinOk.first 0 (.tmp rfl (.tmp rfl .nil)) rfl ?_))
   exact ⟨_, _, rfl, rfl, .inl ⟨⟨by omega, g2, g3, g4, hu, g5⟩, rfl⟩⟩
  ·
   repeat (first | refine gh (gc2 h g5) ?_ | refine gN fun _ => ?_ | refine gB fun _ => ?_ | fail)
   refine W.order [] rfl ?_
   refine W.ret (fin _ _ (FinOk.first 0 (.tmp rfl (.tmp rfl .nil)) rfl ?_))
   exact ⟨_, _, rfl, rfl, .inr ⟨fun h => g5 h.2.2.2.2.2, by kernel_rfl⟩⟩
 have hlt : i < ps.length := by omega
 obtain ⟨bx, ox, lx, ex, frx, rfl, rfl, hld⟩ := cps_at hro hlt
 have hbad : ¬ (ps[i]).Ok se → ∀ s, (s.toList == (⟨#[]⟩ : ByteArray).toList) = false → ∃ s' i', Value.tuple #[.string s, .int .i64 (i : Int)] = .tuple #[.string s', .int .i64 i'] ∧ ([] : List HL) = [] ∧ (((1 ≤ ps.length ∧ ps.length ≤ 16) ∧ (1 ≤ fr ∧ fr ≤ 64) ∧ (1 ≤ dp ∧ dp ≤ 8) ∧ (1 ≤ se ∧ se ≤ 1024) ∧ U ps.length ∧ (ps.map Cp.q).sum = fr) ∧ s' = ⟨#[]⟩ ∨ ¬ ((1 ≤ ps.length ∧ ps.length ≤ 16) ∧ (1 ≤ fr ∧ fr ≤ 64) ∧ (1 ≤ dp ∧ dp ≤ 8) ∧ (1 ≤ se ∧ se ≤ 1024) ∧ U ps.length ∧ (ps.map Cp.q).sum = fr) ∧ (s'.toList == (⟨#[]⟩ : ByteArray).toList) = false) :=
  fun hx s hs => ⟨s, i, rfl, rfl, .inr ⟨fun h => hx (hup _ h.2.2.2.2.1 i hlt hlt), hs⟩⟩
 have hbad2 : ¬ U (i + 1) → ∀ s, (s.toList == (⟨#[]⟩ : ByteArray).toList) = false → ∃ s' i', Value.tuple #[.string s, .int .i64 (i : Int)] = .tuple #[.string s', .int .i64 i'] ∧ ([] : List HL) = [] ∧ (((1 ≤ ps.length ∧ ps.length ≤ 16) ∧ (1 ≤ fr ∧ fr ≤ 64) ∧ (1 ≤ dp ∧ dp ≤ 8) ∧ (1 ≤ se ∧ se ≤ 1024) ∧ U ps.length ∧ (ps.map Cp.q).sum = fr) ∧ s' = ⟨#[]⟩ ∨ ¬ ((1 ≤ ps.length ∧ ps.length ≤ 16) ∧ (1 ≤ fr ∧ fr ≤ 64) ∧ (1 ≤ dp ∧ dp ≤ 8) ∧ (1 ≤ se ∧ se ≤ 1024) ∧ U ps.length ∧ (ps.map Cp.q).sum = fr) ∧ (s'.toList == (⟨#[]⟩ : ByteArray).toList) = false) :=
  fun hx s hs => ⟨s, i, rfl, rfl, .inr ⟨fun h => hx (hle (i + 1) _ h.2.2.2.2.1 hlt), hs⟩⟩
 have hsq := sumq_succ hlt
 have hap2 := hap i hlt hu
 have hus2 := hus i hlt
 have j1 := rout_spec (ps[i]).q 1 64
 have j2 := rout_spec (ps[i]).p 1 64
 have j3 := rout_spec (ps[i]).b 0 (se - 2 * (ps[i]).p)
 have j4 := rhasP_spec ps[i]
 have hfit := fun (hh : (ps[i]).Ok se) => Cp.Ok.fit g4.2 hh
 have hoki : (ps[i]).Ok se ↔ (1 ≤ (ps[i]).q ∧ (ps[i]).q ≤ 64) ∧ (1 ≤ (ps[i]).p ∧ (ps[i]).p ≤ 64) ∧ (0 ≤ (ps[i]).b ∧ (ps[i]).b ≤ se - 2 * (ps[i]).p) := by
  unfold Cp.Ok Cp.to
  constructor <;> intro h <;> omega
 generalize hxi : ps[i] = x at *
 obtain ⟨xq, xb, xp⟩ := x
 simp only [Cp.v] at hld j4
 simp only at j1 j2 j3 hoki hsq
 repeat (first | refine gh h ?_ | refine gN fun _ => ?_ | refine gB fun _ => ?_ | fail)
 refine aV (OpVal.ixSl tab_ok rfl rfl rfl rfl rfl hlt) ?_
 refine aV (OpVal.load tab_ok rfl (at_ro 0 rfl) hld) ?_
 repeat (first | refine gx ?_ | refine gN fun _ => ?_ | refine gB fun _ => ?_ | fail)
 rename_i b6
 refine aC (o := j1) (h := ?_)
 rintro _ _ ⟨rfl, rfl⟩
 refine aG ?_
 rcases Classical.em (1 ≤ xq ∧ xq ≤ 64) with q1 | q1
 case' inr =>
  repeat (first | refine gh q1 ?_ | refine gN fun _ => ?_ | refine gB fun _ => ?_ | fail)
  refine W.order [] rfl ?_
  refine W.ret (fin _ _ (FinOk.first 0 (.tmp rfl (.tmp rfl .nil)) rfl ?_))
  exact hbad (fun h => q1 (hoki.1 h).1) _ (by kernel_rfl)
 repeat (first | refine gh q1 ?_ | refine gN fun _ => ?_ | refine gB fun _ => ?_ | fail)
 refine aC (o := j2) (h := ?_)
 rintro _ _ ⟨rfl, rfl⟩
 refine aG ?_
 rcases Classical.em (1 ≤ xp ∧ xp ≤ 64) with q2 | q2
 case' inr =>
  repeat (first | refine gh q2 ?_ | refine gN fun _ => ?_ | refine gB fun _ => ?_ | fail)
  refine W.order [] rfl ?_
  refine W.ret (fin _ _ (FinOk.first 0 (.tmp rfl (.tmp rfl .nil)) rfl ?_))
  exact hbad (fun h => q2 (hoki.1 h).2.1) _ (by kernel_rfl)
 repeat (first | refine gh q2 ?_ | refine gN fun _ => ?_ | refine gB fun _ => ?_ | fail)
 refine aV (OpVal.mul rfl rfl (i64_in _ (by omega))) ?_
 repeat (first | refine gh q2 ?_ | refine gN fun _ => ?_ | refine gB fun _ => ?_ | fail)
 refine aC (o := j3) (h := ?_)
 rintro _ _ ⟨rfl, rfl⟩
 refine aG ?_
 rcases Classical.em (0 ≤ xb ∧ xb ≤ se - 2 * xp) with q3 | q3
 case' inr =>
  repeat (first | refine gh q3 ?_ | refine gN fun _ => ?_ | refine gB fun _ => ?_ | fail)
  refine W.order [] rfl ?_
  refine W.ret (fin _ _ (FinOk.first 0 (.tmp rfl (.tmp rfl .nil)) rfl ?_))
  exact hbad (fun h => q3 (hoki.1 h).2.2) _ (by kernel_rfl)
 have hxok := hoki.2 ⟨q1, q2, q3⟩
 have j5 := j4 (hfit hxok)
 have hap3 := hap2 hxok
 repeat (first | refine gh q3 ?_ | refine gN fun _ => ?_ | refine gB fun _ => ?_ | fail)
 refine aLp (fun k ρ1 L1 => ∃ s : Nat, (s : Int) ≤ se ∧ (∀ z : Int, 0 ≤ z → z < s → Cp.has ⟨xq, xb, xp⟩ z → ∀ m (hm : m < i), ¬ (ps[m]'(Nat.lt_trans hm hlt)).has z) ∧ k = se.toNat - s ∧ ρ1 = [(7, .int .i64 (s : Int)), (5, .int .i64 (i : Int)), (4, .int .i64 (sumq (ps.take i))), (1, .pointer (some ⟨b1, 0, none⟩)), (6, .pointer (some ⟨b6, 0, none⟩))] ∧ L1 = [[(b6, .cells #[.int .i64 xq, .int .i64 xb, .int .i64 xp] 92 (0, 0))], [(b1, .cells #[.int .i64 fr, .int .i64 dp, .int .i64 se, .slice (some ⟨bx, ox, none⟩) ps.length cap] 24 (0, 0))]]) (o := ⟨0, by omega, by intro z h1 h2; omega, rfl, rfl, rfl⟩) (h := ?_)
 rintro k ρ1 L1 ⟨s, hs, hall, rfl, rfl, rfl⟩
 refine aG ?_
 repeat (first | refine gx ?_ | refine gN fun _ => ?_ | refine gB fun _ => ?_ | fail)
 rcases Classical.em ((s : Int) < se) with hz | hz
 case' inr =>
  have hse : (s : Int) = se := by omega
  have hU1 : U (i + 1) := hus2.2 ⟨hu, hxok, hap3.2 (fun z h1 h2 h3 => hall z h1 (by omega) h3)⟩
  have hsb := sumq_bound (hupm i hu)
  have hlen : (ps.take i).length ≤ 16 := by rw [List.length_take]; omega
  repeat (first | refine gh hz ?_ | refine gN fun _ => ?_ | refine gB fun _ => ?_ | fail)
  rw [← hsq]
  refine W.order [1] rfl ?_
  refine aR (o := ⟨ps.length - (i + 1), by omega, i + 1, hlt, hU1, rfl, rfl, rfl⟩)
 repeat (first | refine gh hz ?_ | refine gN fun _ => ?_ | refine gB fun _ => ?_ | fail)
 refine aC (o := j5 s) (h := ?_)
 rintro _ _ ⟨rfl, rfl⟩
 refine aG ?_
 repeat (first | refine gx ?_ | refine gN fun _ => ?_ | refine gB fun _ => ?_ | fail)
 have hnext : (Cp.has ⟨xq, xb, xp⟩ s → ∀ m (hm : m < i), ¬ (ps[m]'(Nat.lt_trans hm hlt)).has s) → ∀ z : Int, 0 ≤ z → z < ((s + 1 : Nat) : Int) → Cp.has ⟨xq, xb, xp⟩ z → ∀ m (hm : m < i), ¬ (ps[m]'(Nat.lt_trans hm hlt)).has z := fun hh z h1 h2 h3 m hm => by
  rcases Int.lt_or_le z s with h4 | h4
  · exact hall z h1 h4 h3 m hm
  ·
   obtain rfl : z = s := by omega
   exact hh h3 m hm
 rcases Classical.em (Cp.has ⟨xq, xb, xp⟩ s) with hw | hw
 case' inr =>
  have hn := hnext (fun h => absurd h hw)
  rw [decide_eq_false hw]
  clear hnext
  refine aLp (fun k ρ1 L1 => k = 0 ∧ ρ1 = [(9, .int .i64 0), (8, .bool false), (7, .int .i64 (s : Int)), (5, .int .i64 (i : Int)), (4, .int .i64 (sumq (ps.take i))), (1, .pointer (some ⟨b1, 0, none⟩)), (6, .pointer (some ⟨b6, 0, none⟩))] ∧ L1 = [[(b6, .cells #[.int .i64 xq, .int .i64 xb, .int .i64 xp] 92 (0, 0))], [(b1, .cells #[.int .i64 fr, .int .i64 dp, .int .i64 se, .slice (some ⟨bx, ox, none⟩) ps.length cap] 24 (0, 0))]]) (o := ⟨rfl, rfl, rfl⟩) (h := ?_)
  rintro k ρ1 L1 ⟨rfl, rfl, rfl⟩
  refine aG ?_
  rcases Classical.em ((0 : Int) < (i : Int)) with hi0 | hi0
  case' inl =>
   repeat (first | refine gh hi0 ?_ | refine gN fun _ => ?_ | refine gB fun _ => ?_ | fail)
  case' inr =>
   repeat (first | refine gh hi0 ?_ | refine gN fun _ => ?_ | refine gB fun _ => ?_ | fail)
  all_goals
   refine W.order [0, 0] rfl ?_
   refine aR (o := ⟨se.toNat - (s + 1), by omega, s + 1, by omega, hn, rfl, rfl, rfl⟩)
 rw [decide_eq_true hw]
 refine aLp (fun k ρ1 L1 => ∃ m : Nat, m ≤ i ∧ (∀ n (hn : n < i), n < m → ¬ (ps[n]'(Nat.lt_trans hn hlt)).has s) ∧ k = i - m ∧ ρ1 = [(9, .int .i64 (m : Int)), (8, .bool true), (7, .int .i64 (s : Int)), (5, .int .i64 (i : Int)), (4, .int .i64 (sumq (ps.take i))), (1, .pointer (some ⟨b1, 0, none⟩)), (6, .pointer (some ⟨b6, 0, none⟩))] ∧ L1 = [[(b6, .cells #[.int .i64 xq, .int .i64 xb, .int .i64 xp] 92 (0, 0))], [(b1, .cells #[.int .i64 fr, .int .i64 dp, .int .i64 se, .slice (some ⟨bx, ox, none⟩) ps.length cap] 24 (0, 0))]]) (o := ⟨0, Nat.zero_le _, by intro n _ h; omega, rfl, rfl, rfl⟩) (h := ?_)
 rintro k ρ1 L1 ⟨m, hm, hno, rfl, rfl, rfl⟩
 refine aG ?_
 rcases Classical.em ((m : Int) < (i : Int)) with hmz | hmz
 case' inr =>
  have hn := hnext (fun _ n hn => hno n hn (by omega))
  repeat (first | refine gh hmz ?_ | refine gN fun _ => ?_ | refine gB fun _ => ?_ | fail)
  refine W.order [0, 0] rfl ?_
  refine aR (o := ⟨se.toNat - (s + 1), by omega, s + 1, by omega, hn, rfl, rfl, rfl⟩)
 have hml : m < ps.length := by omega
 obtain ⟨bx', ox', lx', ex', frx', hb', hr', hld'⟩ := cps_at hro hml
 cases hb'
 cases hr'
 have hH := rhasP_spec ps[m] ((hup i hu m (by omega) hml).fit g4.2) s
 have hstop : (ps[m]).has s → ¬ U (i + 1) := fun h hU2 => by
  have h1 := hap3.1 (hus2.1 hU2).2.2 s (by omega) hz hw m (by omega)
  exact h1 h
 have hcont : ¬ (ps[m]).has s → ∀ n (hn : n < i), n < m + 1 → ¬ (ps[n]'(Nat.lt_trans hn hlt)).has s := fun h n hn hn2 => by
  rcases Nat.lt_or_ge n m with h4 | h4
  · exact hno n hn h4
  ·
   obtain rfl : n = m := by omega
   exact h
 generalize ps[m] = y at *
 repeat (first | refine gh hmz ?_ | refine gN fun _ => ?_ | refine gB fun _ => ?_ | fail)
 refine aV (OpVal.ixSl tab_ok rfl rfl rfl rfl rfl hml) ?_
 refine aV (OpVal.load tab_ok rfl (at_ro 0 rfl) hld') ?_
 repeat (first | refine gx ?_ | refine gN fun _ => ?_ | refine gB fun _ => ?_ | fail)
 refine aC (o := hH) (h := ?_)
 rintro _ _ ⟨rfl, rfl⟩
 refine aG ?_
 rcases Classical.em (y.has s) with hys | hys
 ·
  have hst := hbad2 (hstop hys)
  repeat (first | refine gh hys ?_ | refine gN fun _ => ?_ | refine gB fun _ => ?_ | fail)
  refine W.order [] rfl ?_
  refine W.ret (fin _ _ (FinOk.first 0 (.tmp rfl (.tmp rfl .nil)) rfl ?_))
  exact hst _ (by kernel_rfl)
 ·
  have hc := hcont hys
  repeat (first | refine gh hys ?_ | refine gN fun _ => ?_ | refine gB fun _ => ?_ | fail)
  refine aR (o := ⟨i - (m + 1), by omega, m + 1, by omega, hc, rfl, rfl, rfl⟩)
theorem RefMay_spec (c : Cf) (hin : c.In) (hps : c.ps.length ≤ 9223372036854775807) (a : Option Addr) (cap : Nat) (ro : HL) (hro : RoSl 3 (cps c.ps) a c.ps.length ro) :
  Ctr Tryz.prog 18 [c.v a cap] [] ro (fun v L' => ∃ b, v = .bool b ∧ L' = [] ∧ (b = true ↔ c.Ok)) := by
 have hC := RefCheck_spec c hin hps a cap ro hro
 obtain ⟨fr, dp, se, ps⟩ := c
 simp only [Cf.v] at *
 refine Ctr.enter (n := 12) [.tmp 2] [(0, _)] Tryz.func18 rfl rfl rfl (lb rfl) Tryz.call18 ⟨rfl, trivial⟩ ?_
 intro cx fin fin0
 refine aG ?_
 repeat (first | refine gx ?_ | refine gN fun _ => ?_ | refine gB fun _ => ?_ | fail)
 refine aC (o := hC) (h := ?_)
 rintro _ _ ⟨s, i, rfl, rfl, hs⟩
 refine aG ?_
 repeat (first | refine gx ?_ | refine gN fun _ => ?_ | refine gB fun _ => ?_ | fail)
 refine aV (OpVal.eqStr rfl rfl) ?_
 repeat (first | refine gx ?_ | refine gN fun _ => ?_ | refine gB fun _ => ?_ | fail)
 refine W.order [] rfl ?_
 refine W.ret (fin _ _ (FinOk.first 0 (.tmp rfl .nil) rfl ?_))
 refine ⟨_, rfl, rfl, ?_⟩
 rcases hs with ⟨h, rfl⟩ | ⟨h, hs⟩
 · exact ⟨fun _ => h, fun _ => noStr⟩
 · rw [hs]; exact ⟨fun h => (by cases h), fun h2 => absurd h2 h⟩
def Cf.few (c : Cf) : Cf := ⟨c.fr, c.dp, c.se, c.ps.take 5⟩
theorem few_in {c : Cf} (h : c.In) : c.few.In := ⟨h.fr, h.dp, h.se, fun x hx => h.ps x (List.mem_of_mem_take hx)⟩
def CfOut (c : Cf) (v : Value) (L' : List HL) : Prop := ∃ a cap H, v = c.v a cap ∧ L' = [H] ∧ Own 3 92 (cps c.ps) a c.ps.length cap H
theorem RefFew_spec (c : Cf) (hps : c.ps.length ≤ 9223372036854775807) (a : Option Addr) (cap : Nat) (hcap : c.ps.length ≤ cap) (ro : HL) (hro : RoSl 3 (cps c.ps) a c.ps.length ro) :
  Ctr Tryz.prog 15 [c.v a cap] [] ro (CfOut c.few) := by
 have hr5 : RoSl 3 (cps (c.ps.take 5)) a (c.ps.take 5).length ro := by
  rcases Nat.lt_or_ge c.ps.length 5 with h | h
  · rw [List.take_of_length_le (by omega)]; exact hro
  · rw [List.length_take, Nat.min_eq_left h]; exact RoSl.take (f := Cp.l) (m := 3) (fun _ => rfl) hro 5 h
 have hmin : (if (5 : Int) < (c.ps.length : Int) then (5 : Int) else (c.ps.length : Int)) = ((c.ps.take 5).length : Int) := by rw [List.length_take]; split <;> omega
 have hl5 : (c.ps.take 5).length ≤ 5 := by rw [List.length_take]; omega
 have hlc : (c.ps.take 5).length ≤ cap := by rw [List.length_take]; omega
 unfold Cf.few
 obtain ⟨fr, dp, se, ps⟩ := c
 simp only at *
 generalize ps.take 5 = p5 at *
 refine Ctr.enter (n := 16) [.cell 2 24] [(0, _)] Tryz.func15 rfl rfl rfl (lb rfl) Tryz.call15 ⟨rfl, trivial⟩ ?_
 intro cx fin fin0
 refine aG ?_
 repeat (first | refine gx ?_ | refine gN fun _ => ?_ | refine gB fun _ => ?_ | fail)
 refine aV (OpVal.min2 rfl rfl) ?_
 rw [hmin]
 refine aV (OpVal.front tab_ok rfl rfl rfl rfl rfl hlc) ?_
 refine W.nilChunk ?_
 refine aPr (appRo tab_ok rfl rfl rfl (Own.nil 3 _) (by intro p hp; cases hp) rfl hr5 (fun q hq => .inr hq) (cps_one _) (by omega) (by omega)) ?_
 rintro _ _ ⟨a2, c2, H2, rfl, rfl, ho⟩
 refine aG ?_
 rw [List.nil_append, Nat.zero_add p5.length] at ho
 rw [Nat.zero_add p5.length]
 repeat (first | refine gx ?_ | refine gN fun _ => ?_ | refine gB fun _ => ?_ | fail)
 refine W.order [0, 0] rfl ?_
 refine W.ret (fin _ _ (FinOk.first 1 (aRc .nil) rfl ?_))
 exact ⟨_, _, _, rfl, rfl, ho⟩
theorem gparts_snoc : ∀ (l : List Cp) (a : Int) (x : Cp), gparts a (l ++ [x]) = gparts a l ++ [gpart (gat a l) x] ∧ gat a (l ++ [x]) = (gpart (gat a l) x).to
 | [], a, x => ⟨rfl, rfl⟩
 | y :: l, a, x => by
  obtain ⟨h1, h2⟩ := gparts_snoc l (gpart a y).to x
  exact ⟨by rw [List.cons_append, gparts, h1]; rfl, by rw [List.cons_append, gat, h2]; rfl⟩
theorem RefGood_spec (c : Cf) (hin : c.In) (hps : c.ps.length ≤ 9223372036854775807) (a : Option Addr) (cap : Nat) (hcap : c.ps.length ≤ cap) (ro : HL) (hro : RoSl 3 (cps c.ps) a c.ps.length ro) :
  Ctr Tryz.prog 16 [c.v a cap] [] ro (CfOut (gcf c)) := by
 have hr4 : RoSl 3 (cps (c.ps.take 4)) a (c.ps.take 4).length ro := by
  rcases Nat.lt_or_ge c.ps.length 4 with h | h
  · rw [List.take_of_length_le (by omega)]; exact hro
  · rw [List.length_take, Nat.min_eq_left h]; exact RoSl.take (f := Cp.l) (m := 3) (fun _ => rfl) hro 4 h
 have hmin : (if (4 : Int) < (c.ps.length : Int) then (4 : Int) else (c.ps.length : Int)) = ((c.ps.take 4).length : Int) := by rw [List.length_take]; split <;> omega
 have hlc : (c.ps.take 4).length ≤ cap := by rw [List.length_take]; omega
 have hl4 : (c.ps.take 4).length ≤ 4 := by rw [List.length_take]; omega
 have hgb : gbase c = if c.ps.take 4 = [] then [⟨0, 0, 0⟩] else c.ps.take 4 := rfl
 have hin4 : ∀ x ∈ c.ps.take 4, x.In := fun x hx => hin.ps x (List.mem_of_mem_take hx)
 have hA1 := Around_spec c.dp 4 hin.dp (by decide)
 have hA2 := Around_spec c.se 3 hin.se (by decide)
 have r1 := around_range c.dp 4 (by decide)
 have r2 := around_range c.se 3 (by decide)
 have hgc : gcf c = ⟨sumq (gparts 0 (gbase c)), 1 + around c.dp 4, gat 0 (gbase c) + around c.se 3, gparts 0 (gbase c)⟩ := rfl
 rw [hgc]
 generalize gbase c = gb at *
 obtain ⟨fr, dp, se, ps⟩ := c
 simp only at *
 generalize ps.take 4 = p4 at *
 generalize around dp 4 = ad at *
 generalize around se 3 = as_ at *
 refine Ctr.enter (n := 79) [.cell 2 24] [(0, _)] Tryz.func16 rfl rfl rfl (lb rfl) Tryz.call16 ⟨rfl, trivial⟩ ?_
 intro cx fin fin0
 refine aG ?_
 repeat (first | refine gx ?_ | refine gN fun _ => ?_ | refine gB fun _ => ?_ | fail)
 rename_i b1 b2
 refine aV (OpVal.min2 rfl rfl) ?_
 rw [hmin]
 refine aV (OpVal.front tab_ok rfl rfl rfl rfl rfl hlc) ?_
 repeat (first | refine gx ?_ | refine gN fun _ => ?_ | refine gB fun _ => ?_ | fail)
 refine W.cut (fun ρ1 L1 => ∃ (al : Option Addr) (cl : Nat) (Hg : HL), 1 ≤ gb.length ∧ gb.length ≤ 4 ∧ (∀ x ∈ gb, x.In) ∧ (∃ r, RoSl 3 (cps gb) al gb.length r ∧ ∀ q ∈ r, q ∈ Hg ∨ q ∈ ro) ∧ ρ1 = [(3, .slice al gb.length cl), (1, .pointer (some ⟨b1, 0, none⟩)), (2, .pointer (some ⟨b2, 0, none⟩))] ∧ L1 = [Hg, [(b2, .cells #[.int .i64 0, .int .i64 0, .int .i64 0, .slice none 0 0] 24 (0, 0))], [(b1, .cells #[.int .i64 fr, .int .i64 dp, .int .i64 se, .slice a ps.length cap] 24 (0, 0))]]) ?_ ?_ trivial
 ·
  rcases Classical.em ((p4.length : Int) = 0) with h0 | h0
  ·
   have hp4 : p4 = [] := List.eq_nil_of_length_eq_zero (by omega)
   rw [if_pos hp4] at hgb
   subst hgb
   repeat (first | refine gh h0 ?_ | refine gN fun _ => ?_ | refine gB fun _ => ?_ | fail)
   refine aBu (ps := []) ?_
   refine aSl (ps := [_]) ?_
   intro bt
   refine aG ?_
   repeat (first | refine gx ?_ | refine gN fun _ => ?_ | refine gB fun _ => ?_ | fail)
   refine aR (o := ⟨_, _, _, by decide, by decide, (by intro x hx; rw [List.mem_singleton.1 hx]; exact ⟨⟨by decide, by decide⟩, ⟨by decide, by decide⟩, ⟨by decide, by decide⟩⟩), ⟨_, ⟨rfl, .inr ⟨bt, 0, _, _, _, rfl, rfl, Nat.le_refl _, rfl⟩⟩, by intro q hq; exact .inl hq⟩, rfl, rfl⟩)
  ·
   have hp4 : ¬ p4 = [] := fun h => h0 (by rw [h]; rfl)
   rw [if_neg hp4] at hgb
   subst hgb
   repeat (first | refine gh h0 ?_ | refine gN fun _ => ?_ | refine gB fun _ => ?_ | fail)
   refine W.nilChunk ?_
   refine aR (o := ⟨_, _, _, by omega, hl4, hin4, ⟨ro, hr4, by intro q hq; exact .inr hq⟩, rfl, rfl⟩)
 clear hgb hmin hlc hl4 hin4 hr4
 rintro ρ1 L1 ⟨al, cl, Hg, hg1, hg4, hgin, ⟨r, hr, hrs⟩, rfl, rfl⟩
 obtain ⟨hp1, hp2, hp3, hp5, hp6⟩ := gparts_ok gb 0 (by decide)
 refine aG ?_
 repeat (first | refine gx ?_ | refine gN fun _ => ?_ | refine gB fun _ => ?_ | fail)
 refine aC (o := hA1) (h := ?_)
 rintro _ _ ⟨rfl, rfl⟩
 refine aG ?_
 refine aV (OpVal.add rfl rfl (i64_in _ (by omega))) ?_
 refine aBu (ps := [_]) ?_
 repeat (first | refine gx ?_ | refine gN fun _ => ?_ | refine gB fun _ => ?_ | fail)
 rename_i b4
 refine W.nilChunk ?_
 refine aLp (fun k ρ1 L1 => ∃ (j : Nat) (gs : List Cp) (ag : Option Addr) (cg : Nat) (Hq : HL), j ≤ gb.length ∧ k = gb.length - j ∧ gs = gparts 0 (gb.take j) ∧ Own 3 92 (cps gs) ag gs.length cg Hq ∧ ρ1 = [(6, .int .i64 (j : Int)), (5, .int .i64 (gat 0 (gb.take j))), (3, .slice al gb.length cl), (1, .pointer (some ⟨b1, 0, none⟩)), (2, .pointer (some ⟨b2, 0, none⟩)), (4, .pointer (some ⟨b4, 0, none⟩))] ∧ L1 = [Hq, [(b4, .cells #[.int .i64 (sumq gs), .int .i64 (1 + ad), .int .i64 0, .slice ag gs.length cg] 24 (0, 0))], Hg, [(b2, .cells #[.int .i64 0, .int .i64 0, .int .i64 0, .slice none 0 0] 24 (0, 0))], [(b1, .cells #[.int .i64 fr, .int .i64 dp, .int .i64 se, .slice a ps.length cap] 24 (0, 0))]]) (o := ⟨0, [], none, 0, [], Nat.zero_le _, rfl, rfl, Own.nil 3 _, rfl, rfl⟩) (h := ?_)
 rintro k ρ1 L1 ⟨j, gs, ag, cg, Hq, hj, rfl, hgs, hog, rfl, rfl⟩
 refine aG ?_
 repeat (first | refine gx ?_ | refine gN fun _ => ?_ | refine gB fun _ => ?_ | fail)
 rcases Classical.em ((j : Int) < (gb.length : Int)) with hz | hz
 ·
  have hlt : j < gb.length := by omega
  obtain ⟨bx, ox, lx, ex, frx, rfl, rfl, hsg, hld⟩ := RoSl.at (f := Cp.l) (m := 3) (fun _ => rfl) hr hlt
  have hnx := gparts_snoc (gb.take j) 0 gb[j]
  rw [← List.take_succ_eq_append_getElem hlt, ← hgs] at hnx
  have hxi := hgin _ (List.getElem_mem hlt)
  obtain ⟨k1, k2, k3, k4, k5⟩ := gparts_ok (gb.take j) 0 (by decide)
  have hlj : (gb.take j).length = j := by rw [List.length_take]; omega
  have hgl : gs.length ≤ 4 := by rw [hgs, k1, hlj]; omega
  have hsb : 0 ≤ sumq gs ∧ sumq gs ≤ 64 * (gs.length : Int) := sumq_bound (s := 1024) fun x hx => by
   rw [hgs] at hx
   have := k2 x hx
   have hb := hp5
   exact ⟨⟨by omega, by omega⟩, ⟨by omega, by omega⟩, by omega, by omega⟩
  have hsn : sumq (gs ++ [gpart (gat 0 (gb.take j)) gb[j]]) = sumq gs + (1 + around (gb[j]).q 3) := by simp [sumq, gpart]
  have hto : (gpart (gat 0 (gb.take j)) gb[j]).to = gat 0 (gb.take j) + around (gb[j]).b 3 + 2 * (1 + around (gb[j]).p 4) := by simp only [Cp.to, gpart]; omega
  have B1 := Around_spec (gb[j]).q 3 hxi.1 (by decide)
  have B2 := Around_spec (gb[j]).b 3 hxi.2.1 (by decide)
  have B3 := Around_spec (gb[j]).p 4 hxi.2.2 (by decide)
  have s1 := around_range (gb[j]).q 3 (by decide)
  have s2 := around_range (gb[j]).b 3 (by decide)
  have s3 := around_range (gb[j]).p 4 (by decide)
  have l0 : lx[ox + j * 3 + 0]? = some (.int .i64 (gb[j]).q) := hld 0 (by decide)
  have l1 : lx[ox + j * 3 + 1]? = some (.int .i64 (gb[j]).b) := hld 1 (by decide)
  have l2 : lx[ox + j * 3 + 2]? = some (.int .i64 (gb[j]).p) := hld 2 (by decide)
  rw [hto] at hnx
  obtain ⟨hn1, hn2⟩ := hnx
  have hgp : gpart (gat 0 (gb.take j)) gb[j] = ⟨1 + around (gb[j]).q 3, gat 0 (gb.take j) + around (gb[j]).b 3, 1 + around (gb[j]).p 4⟩ := rfl
  rw [hgp] at hn1 hsn
  obtain ⟨gs2, hgs2⟩ : ∃ gs2, gs2 = gparts 0 (gb.take (j + 1)) := ⟨_, rfl⟩
  rw [← hgs2] at hn1
  rw [← hn1] at hsn
  obtain ⟨at2, hat2⟩ : ∃ at2, at2 = gat 0 (gb.take (j + 1)) := ⟨_, rfl⟩
  rw [← hat2] at hn2
  generalize gat 0 (gb.take j) = at1 at *
  generalize around (gb[j]).q 3 = y1 at *
  generalize around (gb[j]).b 3 = y2 at *
  generalize around (gb[j]).p 4 = y3 at *
  generalize (gb[j]).q = x1 at *
  generalize (gb[j]).b = x2 at *
  generalize (gb[j]).p = x3 at *
  have hmx : (bx, Obj.cells (List.toArray lx) ex frx) ∈ Hg ∨ (bx, Obj.cells (List.toArray lx) ex frx) ∈ ro := hrs _ (List.mem_singleton.2 rfl)
  repeat (first | refine gh hz ?_ | refine gN fun _ => ?_ | refine gB fun _ => ?_ | fail)
  refine W.drawH tab_ok 24 [.b false, .b false, .b false, .b false, .b false, .b false, .b false, .b false, .b false, .b false, .b false, .b false, .b false, .b false, .b false, .b false, .b false, .b false, .b false, .b false, .b false, .b false, .b false, .f] [] follows (by decide +kernel) (by decide +kernel) rfl (by decide) rfl ?_
  intro _
  refine dG ?_
  refine gdx ?_
  refine dV (OpVal.ixSl tab_ok rfl rfl rfl rfl rfl hlt) ?_
  refine dV (OpVal.load tab_ok rfl (show At _ _ bx (.cells lx.toArray ex frx) from .inr (hmx.elim (fun h => by simp [h]) (fun h => by simp [h]))) l0) ?_
  refine dQ (o := B1) (h := ?_)
  refine gdx ?_
  refine dV (OpVal.ixSl tab_ok rfl rfl rfl rfl rfl hlt) ?_
  refine dV (OpVal.load tab_ok rfl (show At _ _ bx (.cells lx.toArray ex frx) from .inr (hmx.elim (fun h => by simp [h]) (fun h => by simp [h]))) l1) ?_
  refine dQ (o := B2) (h := ?_)
  refine gdx ?_
  refine dV (OpVal.ixSl tab_ok rfl rfl rfl rfl rfl hlt) ?_
  refine dV (OpVal.load tab_ok rfl (show At _ _ bx (.cells lx.toArray ex frx) from .inr (hmx.elim (fun h => by simp [h]) (fun h => by simp [h]))) l2) ?_
  refine dQ (o := B3) (h := ?_)
  refine gdx ?_
  refine dV (OpVal.build (ps := [_, _, _]) tab_ok rfl rfl rfl rfl (by repeat (first | exact trivial | refine ⟨⟨_, _, _, rfl, rfl, rfl⟩, ?_⟩)) rfl) ?_
  refine gdx ?_
  refine WD.float tab_ok rfl rfl (lb rfl) (dG ?_)
  refine WD.nil ?_
  intro _ _ _ e; cases e
  refine aG ?_
  repeat (first | refine gx ?_ | refine gN fun _ => ?_ | refine gB fun _ => ?_ | fail)
  refine aSl (ps := [_]) ?_
  intro bt
  refine aG ?_
  refine aAp (hog) ?_
  rintro _ _ ⟨_, _, _, rfl, rfl, ho⟩
  refine aG ?_
  have e2 : cps gs ++ [.int .i64 (1 + y1), .int .i64 (at1 + y2), .int .i64 (1 + y3)] = cps gs2 := by rw [hn1]; simp [cps, Cp.l]
  have e3 : gs.length + 1 = gs2.length := by rw [hn1, List.length_append]; rfl
  rw [e2, e3] at ho
  rw [e3]
  repeat (first | refine gx ?_ | refine gN fun _ => ?_ | refine gB fun _ => ?_ | fail)
  rw [← hsn]
  refine aV (OpVal.mul rfl rfl (i64_in _ (by omega))) ?_
  repeat (first | refine gx ?_ | refine gN fun _ => ?_ | refine gB fun _ => ?_ | fail)
  rw [← hn2, hat2]
  refine W.order [0, 2, 2, 2, 2] rfl ?_
  refine aR (o := ⟨gb.length - (j + 1), by omega, j + 1, gs2, _, _, _, by omega, rfl, hgs2, ho, rfl, rfl⟩)
 ·
  obtain rfl : j = gb.length := by omega
  rw [List.take_length] at hgs
  rw [List.take_length]
  subst hgs
  repeat (first | refine gh hz ?_ | refine gN fun _ => ?_ | refine gB fun _ => ?_ | fail)
  refine aC (o := hA2) (h := ?_)
  rintro _ _ ⟨rfl, rfl⟩
  refine aG ?_
  repeat (first | refine gx ?_ | refine gN fun _ => ?_ | refine gB fun _ => ?_ | fail)
  refine W.order [0, 2, 0] rfl ?_
  refine W.ret (fin _ _ (FinOk.first 1 (aRc .nil) rfl ?_))
  exact ⟨_, _, _, rfl, rfl, hog⟩
end Go.Proofs.YtfpghdcjdnifcaaGreat
namespace Go.Proofs.YtfpghdcjdnifcaaGreat
open Go Go.Sl Go.IntWalk
set_option maxHeartbeats 8000000
set_option maxRecDepth 20000
set_option linter.unusedVariables false
end Go.Proofs.YtfpghdcjdnifcaaGreat
namespace Go.Proofs.YtfpghdcjdnifcaaGreat
open Go Go.Sl Go.IntWalk
set_option maxHeartbeats 8000000
set_option maxRecDepth 20000
set_option linter.unusedVariables false
def cf2 : Cf := ⟨3, 2, 12, [⟨1, 0, 2⟩, ⟨2, 5, 3⟩]⟩
theorem cf2_ok : cf2.Ok := by
 refine ⟨by decide, by decide, by decide, by decide, fun x hx => ?_, ?_, by decide⟩
 ·
  simp only [cf2, List.mem_cons, List.not_mem_nil, or_false] at hx
  rcases hx with rfl | rfl <;> (unfold Cp.Ok Cp.to cf2; decide)
 ·
  unfold cf2
  simp only [List.pairwise_cons, List.mem_cons, List.not_mem_nil, or_false, forall_eq, false_imp_iff, implies_true, List.Pairwise.nil, and_true]
  unfold Apart Cp.to
  decide
theorem cf2_in : cf2.In := by
 refine ⟨⟨by decide, by decide⟩, ⟨by decide, by decide⟩, ⟨by decide, by decide⟩, fun x hx => ?_⟩
 simp only [cf2, List.mem_cons, List.not_mem_nil, or_false] at hx
 rcases hx with rfl | rfl <;> exact ⟨⟨by decide, by decide⟩, ⟨by decide, by decide⟩, ⟨by decide, by decide⟩⟩
def g2 : Gt := Gt.new cf2 [] []
def rq0 (k : Int) : Rq := ⟨k, 0, 0, 0, []⟩
theorem g2_bad : (g2.accept 1 (reqBytes (1, 5) (rq0 1))).2 = (0, 10) := by kernel_rfl
theorem g2_badp : (g2.accept 1 (reqBytes (1, 5) (rq0 1))).1 = g2 := by
 unfold Gt.accept
 rw [if_neg (by decide), if_pos (by rw [show g2.let_ 1 (reqBytes (1, 5) (rq0 1)) = 10 from by kernel_rfl]; decide)]
theorem g2_good : (g2.accept 1 (reqBytes (0, 1048576) (rq0 1))).2 = (1, 0) := by kernel_rfl
theorem g2_root : g2.root 1 = ((0, 1048576), 0) := by kernel_rfl
theorem reqBytes_ok (c : Int × Int) {q : Rq} (h : u8ok q.data) : u8ok (reqBytes c q) := fun x hx => by
 rcases List.mem_append.1 hx with h1 | h1
 · exact les_ok _ x h1
 ·
  rcases List.mem_append.1 h1 with h2 | h2
  · exact le8_ok _ x h2
  · exact h x h2
theorem reqBytes_len (c : Int × Int) (q : Rq) : (reqBytes c q).length = 56 + q.data.length := by
 unfold reqBytes
 rw [List.length_append, List.length_append, les_len, le8_len]
 simp
 omega
theorem cfOwn {c : Cf} {a : Option Addr} {cap : Nat} {H : HL} (h : Own 3 92 (cps c.ps) a c.ps.length cap H) : c.ps.length ≤ cap ∧ RoSl 3 (cps c.ps) a c.ps.length H := by
 refine ⟨?_, Own.roSl h⟩
 rcases h.2 with ⟨_, h1, h2, _⟩ | ⟨_, _, _, _, h1, _⟩ <;> omega
theorem GOpenOk_spec (c : Cf) (hok : c.Ok) (hin : c.In) (a : Option Addr) (cap : Nat) (ro : HL) (hcap : c.ps.length ≤ cap) (hro : RoSl 3 (cps c.ps) a c.ps.length ro) :
  Ctr Tryz.prog 17 [c.v a cap, .slice none 0 0, .slice none 0 0] [] ro (fun v L' => ∃ b H, v = .tuple #[.pointer (some ⟨b, 0, none⟩), .int .i64 0] ∧ L' = [H] ∧ GtAt (Gt.new c [] []) b H) := by
 have hl := hok.len.2
 refine ((GOpen_spec c hin (by omega) a cap hcap ro hro [] [] none 0 [] BitsAt.nil none 0 [] BitsAt.nil).ro (ro1 := ro) (fun p hp => by simpa using hp)).post ?_
 rintro v L' (⟨h, -⟩ | ⟨-, b, H, h1, h2, h3⟩)
 · exact absurd hok h
 · exact ⟨b, H, h1, h2, h3⟩
theorem GOpenNo_spec (c : Cf) (hno : ¬ c.Ok) (hin : c.In) (hps : c.ps.length ≤ 9223372036854775807) (a : Option Addr) (cap : Nat) (ro : HL) (hcap : c.ps.length ≤ cap) (hro : RoSl 3 (cps c.ps) a c.ps.length ro) :
  Ctr Tryz.prog 17 [c.v a cap, .slice none 0 0, .slice none 0 0] [] ro (fun v L' => v = .tuple #[.pointer none, .int .i64 3] ∧ L' = []) := by
 refine ((GOpen_spec c hin hps a cap hcap ro hro [] [] none 0 [] BitsAt.nil none 0 [] BitsAt.nil).ro (ro1 := ro) (fun p hp => by simpa using hp)).post ?_
 rintro v L' (⟨-, h1, h2⟩ | ⟨h, -⟩)
 · exact ⟨h1, h2⟩
 · exact absurd h hno
theorem Two_spec : Ctr Tryz.prog 27 [] [] [] (CfOut cf2) := by
 refine Ctr.enter (n := 5) [.cell 0 24] [] Tryz.func27 rfl rfl rfl (lb rfl) Tryz.call27 trivial ?_
 intro cx fin fin0
 refine aG ?_
 repeat (first | refine gx ?_ | refine gN fun _ => ?_ | refine gB fun _ => ?_ | fail)
 refine aBu (ps := [_, _, _]) ?_
 repeat (first | refine gx ?_ | refine gN fun _ => ?_ | refine gB fun _ => ?_ | fail)
 refine aBu (ps := [_, _, _]) ?_
 repeat (first | refine gx ?_ | refine gN fun _ => ?_ | refine gB fun _ => ?_ | fail)
 refine aSl (ps := [_, _]) ?_
 intro bt
 refine aG ?_
 refine aBu (ps := [_, _, _, _]) ?_
 repeat (first | refine gx ?_ | refine gN fun _ => ?_ | refine gB fun _ => ?_ | fail)
 refine W.order [0, 0] rfl ?_
 refine W.ret (fin _ _ (FinOk.first 1 (aRc .nil) rfl ?_))
 exact ⟨_, _, _, rfl, rfl, Own.exact (cs := cps cf2.ps) bt rfl⟩
theorem g2_inv : g2.Inv := new_ginv cf2_ok cf2_in [] []
theorem nou8' : u8ok [] := fun b hb => by cases hb
theorem i64k (k : Int) (h : 0 ≤ k ∧ k ≤ 1048576) : i64s k := ⟨by omega, by omega⟩
theorem rqI (c : Int × Int) (hc : i64s c.1 ∧ i64s c.2) (k : Int) (hk : i64s k) : Rq.I c (rq0 k) := ⟨hc.1, hc.2, hk, i64k 0 (by decide), i64k 0 (by decide), i64k 0 (by decide)⟩
theorem GLives_spec : Ctr Tryz.prog 25 [] [] [] (fun v L' => v = .bool true ∧ L' = []) := by
 have hO := fun a cap ro hc hr => GOpenOk_spec cf2 cf2_ok cf2_in a cap ro hc hr
 have hg : g2 = Gt.new cf2 [] [] := rfl
 rw [← hg] at hO
 have hi := g2_inv
 have hR := fun b H h => GRoot_spec g2 hi b H h 1
 rw [g2_root] at hR
 have z1 : i64s 1 := i64k 1 (by decide)
 have hB1 := ReqBytes_spec (1, 5) (rq0 1) (rqI _ ⟨z1, i64k 5 (by decide)⟩ 1 z1) (by decide) none 0 [] ⟨rfl, .inl ⟨rfl, rfl⟩⟩
 have hB2 := ReqBytes_spec (0, 1048576) (rq0 1) (rqI _ ⟨i64k 0 (by decide), i64k 1048576 (by decide)⟩ 1 z1) (by decide) none 0 [] ⟨rfl, .inl ⟨rfl, rfl⟩⟩
 have hid : ∀ g : Gt, g = g2 → g.p.in_ 1 → (g.p.tn 1).t.ids < 1000000 := by rintro g rfl _; decide
 have hD1 := fun b H h a cap ro hro => GDo_spec g2 hi b H h 1 (hid g2 rfl) (reqBytes (1, 5) (rq0 1)) (reqBytes_ok _ nou8') (by rw [reqBytes_len]; decide) a cap ro hro
 have hD2 := fun b H h a cap ro hro => GDo_spec g2 hi b H h 1 (hid g2 rfl) (reqBytes (0, 1048576) (rq0 1)) (reqBytes_ok _ nou8') (by rw [reqBytes_len]; decide) a cap ro hro
 rw [g2_bad, g2_badp] at hD1
 rw [g2_good] at hD2
 generalize (g2.accept 1 (reqBytes (0, 1048576) (rq0 1))).1 = g3 at *
 have hnow : g2.p.now = 0 := rfl
 rw [hnow] at hD1 hD2
 generalize reqBytes (1, 5) (rq0 1) = bb1 at *
 generalize reqBytes (0, 1048576) (rq0 1) = bb2 at *
 simp only [capV, Rq.v, rq0] at *
 refine Ctr.enter (n := 55) [.tmp 0] [] Tryz.func25 rfl rfl rfl (lb rfl) Tryz.call25 trivial ?_
 intro cx fin fin0
 refine aG ?_
 repeat (first | refine gx ?_ | refine gN fun _ => ?_ | refine gB fun _ => ?_ | fail)
 refine aC (o := Two_spec) (h := ?_)
 rintro _ _ ⟨a, cap, H0, rfl, rfl, ho⟩
 refine aG ?_
 obtain ⟨ho1, ho2⟩ := cfOwn ho
 refine aC (o := hO a cap H0 ho1 ho2) (h := ?_) (hro := RoIn.own 0 rfl)
 rintro _ _ ⟨bg, Hg, rfl, rfl, hga⟩
 refine aG ?_
 repeat (first | refine gx ?_ | refine gN fun _ => ?_ | refine gB fun _ => ?_ | fail)
 refine aC (o := hR bg Hg hga) (h := ?_)
 rintro _ _ ⟨Hg, rfl, rfl, hga⟩
 refine aG ?_
 repeat (first | refine gx ?_ | refine gN fun _ => ?_ | refine gB fun _ => ?_ | fail)
 refine aBu (ps := [_, _]) ?_
 refine aBu (ps := [_]) ?_
 refine aC (o := hB1) (h := ?_)
 rintro _ _ ⟨a1, c1, H1, rfl, rfl, ho3⟩
 refine aG ?_
 refine aC (o := hD1 bg Hg hga a1 c1 H1 (Own.roSl ho3)) (h := ?_) (hro := RoIn.own 0 rfl)
 rintro _ _ ⟨Hg, rfl, rfl, hga⟩
 refine aG ?_
 repeat (first | refine gx ?_ | refine gN fun _ => ?_ | refine gB fun _ => ?_ | fail)
 refine aBu (ps := [_]) ?_
 refine aC (o := hB2) (h := ?_)
 rintro _ _ ⟨a2, c2, H2, rfl, rfl, ho4⟩
 refine aG ?_
 refine aC (o := hD2 bg Hg hga a2 c2 H2 (Own.roSl ho4)) (h := ?_) (hro := RoIn.own 0 rfl)
 rintro _ _ ⟨Hg, rfl, rfl, hga⟩
 refine aG ?_
 repeat (first | refine gx ?_ | refine gN fun _ => ?_ | refine gB fun _ => ?_ | fail)
 refine W.order [] rfl ?_
 refine W.ret (fin _ _ (FinOk.first 0 (.tmp rfl .nil) rfl ?_))
 exact ⟨rfl, rfl⟩
end Go.Proofs.YtfpghdcjdnifcaaGreat
namespace Go.Proofs.YtfpghdcjdnifcaaGreat
open Go Go.Sl Go.IntWalk
set_option maxHeartbeats 8000000
set_option maxRecDepth 20000
set_option linter.unusedVariables false
theorem new_empty (n : Nat) : (Pt.new n).empty = true := by
 unfold Pt.empty Pt.new
 rw [List.all_eq_true]
 intro f hf
 simp at hf
 rw [hf.2, eqFr_iff]
theorem tot_zero (g : Pt → Int) {ps : List Pt} (h : ∀ p ∈ ps, g p = 0) : tot g ps = 0 := by
 unfold tot
 induction ps with
 | nil => rfl
 | cons p ps ih => simp only [List.foldl_cons, h p (by simp), Int.zero_add]; exact ih (fun q hq => h q (by simp [hq]))
theorem new_all_empty (c : Cf) (fs ks : List (List Bool)) : (Pl.new c fs ks).empty = true := by
 unfold Pl.empty
 rw [parts_all]
 exact decide_eq_true (tot_zero _ fun p hp => by
  obtain ⟨n, _, rfl⟩ := List.mem_map.1 hp
  simp [emptyN, new_empty])
theorem Cf.Ok.in_ {c : Cf} (h : c.Ok) : c.In := by
 have h1 := h.fr
 have h2 := h.dp
 have h3 := h.se
 refine ⟨⟨by omega, by omega⟩, ⟨by omega, by omega⟩, ⟨by omega, by omega⟩, fun x hx => ?_⟩
 have hx := h.ps x hx
 unfold Cp.Ok Cp.to at hx
 exact ⟨⟨by omega, by omega⟩, ⟨by omega, by omega⟩, ⟨by omega, by omega⟩⟩
theorem new_why (c : Cf) (fs ks : List (List Bool)) (k : Int) : (Gt.new c fs ks).why k = if 0 ≤ k ∧ k < (c.ps.length : Int) then 0 else 1 := by
 have e : (Gt.new c fs ks).p.l.length = c.ps.length := new_len c fs ks
 have e2 : (Gt.new c fs ks).p.in_ k ↔ 0 ≤ k ∧ k < (c.ps.length : Int) := by unfold Pl.in_; rw [e]
 unfold Gt.why
 by_cases h : 0 ≤ k ∧ k < (c.ps.length : Int)
 · rw [if_neg (fun h2 => h2 (e2.2 h)), if_neg (fun h2 => h2 rfl), if_pos h]
 · rw [if_pos (fun h2 => h (e2.1 h2)), if_neg h]
theorem new_tab (c : Cf) (fs ks : List (List Bool)) (k : Int) (h : 0 ≤ k ∧ k < (c.ps.length : Int)) : (Gt.new c fs ks).tab k = Tb.new 1 := by
 unfold Gt.tab
 have e : (Gt.new c fs ks).tabs = List.replicate c.ps.length (Tb.new 1) := rfl
 rw [e, List.getD_eq_getElem?_getD, List.getElem?_replicate, if_pos (by omega)]
 rfl
theorem new_root (c : Cf) (fs ks : List (List Bool)) (k : Int) : (Gt.new c fs ks).root k = if 0 ≤ k ∧ k < (c.ps.length : Int) then ((0, 1048576), 0) else ((0, 0), 1) := by
 unfold Gt.root
 rw [new_why]
 by_cases h : 0 ≤ k ∧ k < (c.ps.length : Int)
 · rw [if_pos h, if_neg (fun h2 => h2 rfl), new_tab c fs ks k h, if_pos h]; rfl
 · rw [if_neg h, if_pos (by decide), if_neg h]
theorem new_live (c : Cf) (fs ks : List (List Bool)) (k : Int) : (Gt.new c fs ks).live k = if 0 ≤ k ∧ k < (c.ps.length : Int) then 1 else 0 := by
 unfold Gt.live
 rw [new_why]
 by_cases h : 0 ≤ k ∧ k < (c.ps.length : Int)
 · rw [if_pos h, if_neg (fun h2 => h2 rfl), new_tab c fs ks k h, if_pos h, Tb.new_all]; rfl
 · rw [if_neg h, if_pos (by decide), if_neg h]
theorem GateNews_spec (c : Cf) (hin : c.In) (hps : c.ps.length ≤ 9223372036854775807) (a : Option Addr) (cap : Nat) (hcap : c.ps.length ≤ cap) (ro : HL) (hro : RoSl 3 (cps c.ps) a c.ps.length ro) :
  Ctr Tryz.prog 3 [c.v a cap] [] ro (fun v L' => v = .bool true ∧ L' = []) := by
 have hF := RefFew_spec c hps a cap hcap ro hro
 have hG := RefGood_spec c hin hps a cap hcap ro hro
 have hL := GLives_spec
 have f1 := few_in hin
 have f2 := (gcf_ok c).in_
 have f3 := gcf_len c
 have f4 : c.few.ps.length ≤ 5 := by show (c.ps.take 5).length ≤ 5; rw [List.length_take]; omega
 unfold CfOut at hF hG
 generalize gcf c = cg at *
 generalize c.few = cw at *
 refine Ctr.enter (n := 134) [.tmp 2] [(0, _)] Tryz.func3 rfl rfl rfl (lb rfl) Tryz.call3 ⟨rfl, trivial⟩ ?_
 intro cx fin fin0
 refine aG ?_
 repeat (first | refine gx ?_ | refine gN fun _ => ?_ | refine gB fun _ => ?_ | fail)
 rename_i b1
 refine W.drawH tab_ok 5 [.b false, .b true, .b false, .b true, .b true] [] follows (by decide +kernel) (by decide +kernel) rfl (by decide) rfl ?_
 intro _
 refine dG ?_
 refine gdx ?_
 refine dC (o := hF) (h := ?_) (hro := RoIn.all (fun q hq => List.mem_append_right _ hq))
 rintro _ _ ⟨a1, c1, H1, rfl, rfl, ho1⟩
 refine dG ?_
 refine gdx ?_
 refine dC (o := hG) (h := ?_) (hro := RoIn.all (fun q hq => List.mem_append_right _ hq))
 rintro _ _ ⟨a2, c2, H2, rfl, rfl, ho2⟩
 refine dG ?_
 refine gdx ?_
 refine dSl (ps := [_, _]) ?_
 intro bt
 refine dG ?_
 refine WD.nil (W.dropNil (aG ?_))
 repeat (first | refine gx ?_ | refine gN fun _ => ?_ | refine gB fun _ => ?_ | fail)
 have hat : ∀ i < 2, ∃ (c' : Cf) (a' : Option Addr) (cap' : Nat) (H' : HL), ldv? tab 24 [.int .i64 cw.fr, .int .i64 cw.dp, .int .i64 cw.se, .slice a1 cw.ps.length c1, .int .i64 cg.fr, .int .i64 cg.dp, .int .i64 cg.se, .slice a2 cg.ps.length c2] (0 + i * 4) = some (c'.v a' cap') ∧
   ([.int .i64 cw.fr, .int .i64 cw.dp, .int .i64 cw.se, .slice a1 cw.ps.length c1, .int .i64 cg.fr, .int .i64 cg.dp, .int .i64 cg.se, .slice a2 cg.ps.length c2] : List Value)[0 + i * 4 + 3]? = some (.slice a' c'.ps.length cap') ∧ c'.In ∧ c'.ps.length ≤ 5 ∧ c'.ps.length ≤ cap' ∧ RoSl 3 (cps c'.ps) a' c'.ps.length H' ∧ (∀ q ∈ H', q ∈ H1 ∨ q ∈ H2) := by
  intro i hi
  match i, hi with
  | 0, _ => exact ⟨cw, a1, c1, H1, rfl, rfl, f1, f4, (cfOwn ho1).1, (cfOwn ho1).2, fun q hq => .inl hq⟩
  | 1, _ => exact ⟨cg, a2, c2, H2, rfl, rfl, f2, by omega, (cfOwn ho2).1, (cfOwn ho2).2, fun q hq => .inr hq⟩
 refine aLp (fun k ρ1 L1 => ∃ i : Nat, i ≤ 2 ∧ k = 2 - i ∧ ρ1 = [(4, .int .i64 (i : Int)), (3, .slice (some ⟨bt, 0, none⟩) 2 2)] ∧ L1 = [[(bt, .cells #[.int .i64 cw.fr, .int .i64 cw.dp, .int .i64 cw.se, .slice a1 cw.ps.length c1, .int .i64 cg.fr, .int .i64 cg.dp, .int .i64 cg.se, .slice a2 cg.ps.length c2] 24 (0, 0))], H2, H1]) (o := ⟨0, by decide, rfl, rfl, rfl⟩) (h := ?_)
 rintro k ρ1 L1 ⟨i, hi, rfl, rfl, rfl⟩
 refine aG ?_
 rcases Classical.em ((i : Int) < 2) with hz | hz
 case' inr =>
  repeat (first | refine gh hz ?_ | refine gN fun _ => ?_ | refine gB fun _ => ?_ | fail)
  refine W.order [] rfl ?_
  refine aC (o := hL) (h := ?_) (hro := RoIn.nil)
  rintro _ _ ⟨rfl, rfl⟩
  refine aG ?_
  repeat (first | refine gx ?_ | refine gN fun _ => ?_ | refine gB fun _ => ?_ | fail)
  refine W.ret (fin _ _ (FinOk.first 0 (.tmp rfl .nil) rfl ?_))
  exact ⟨rfl, rfl⟩
 have hlt : i < 2 := by omega
 obtain ⟨c', a', cap', H', hld, hl3, hin', h5', hcap', hro', hsub⟩ := hat i hlt
 have hMay := RefMay_spec c' hin' (by omega) a' cap' H' hro'
 repeat (first | refine gh hz ?_ | refine gN fun _ => ?_ | refine gB fun _ => ?_ | fail)
 refine aV (OpVal.ixSl tab_ok rfl rfl rfl rfl rfl hlt) ?_
 refine aV (OpVal.load tab_ok rfl (at_own 0 rfl) hld) ?_
 rcases Classical.em c'.Ok with hok | hno
 case' inr =>
  refine aC (o := GOpenNo_spec c' hno hin' (by omega) a' cap' H' hcap' hro') (h := ?_) (hro := (fun q hq => (hsub q hq).elim (fun h => .inl (by simp [h])) (fun h => .inl (by simp [h]))))
  rintro _ _ ⟨rfl, rfl⟩
  refine aG ?_
  repeat (first | refine gx ?_ | refine gN fun _ => ?_ | refine gB fun _ => ?_ | fail)
  refine aV (OpVal.ixSl tab_ok rfl rfl rfl rfl rfl hlt) ?_
  refine aV (OpVal.load tab_ok rfl (at_own 0 rfl) hld) ?_
  refine aC (o := hMay) (h := ?_) (hro := (fun q hq => (hsub q hq).elim (fun h => .inl (by simp [h])) (fun h => .inl (by simp [h]))))
  rintro _ _ ⟨mb, rfl, rfl, hmb⟩
  refine aG ?_
  obtain rfl : mb = false := by cases mb with | false => rfl | true => exact absurd (hmb.1 rfl) hno
  repeat (first | refine gx ?_ | refine gN fun _ => ?_ | refine gB fun _ => ?_ | fail)
  refine W.order [0, 0, 0] rfl ?_
  refine aR (o := ⟨2 - (i + 1), by omega, i + 1, by omega, rfl, rfl, rfl⟩)
 have hgi := new_ginv hok hin' [] []
 have hRoot := fun k b H h => GRoot_spec (Gt.new c' [] []) hgi b H h k
 have hLive := fun k b H h => GLive_spec (Gt.new c' [] []) hgi b H h k
 have hRe := fun b H h => GReady_spec (Gt.new c' [] []) b H h
 have hEm := fun b H h => GEmpty_spec (Gt.new c' [] []) hgi b H h
 have hNo := fun b H h => GNow_spec (Gt.new c' [] []) b H h
 have hEp := fun b H h => GEpoch_spec (Gt.new c' [] []) b H h
 have e1 : (Gt.new c' [] []).p.empty = true := new_all_empty c' [] []
 have e2 : (Gt.new c' [] []).p.down = 0 := rfl
 have e3 : (Gt.new c' [] []).p.now = 0 := rfl
 have e4 : (Gt.new c' [] []).p.epoch = 1 := rfl
 rw [e1] at hEm
 rw [e2] at hRe
 rw [e3] at hNo
 rw [e4] at hEp
 have r1 := new_root c' [] []
 have r2 := new_live c' [] []
 refine aC (o := GOpenOk_spec c' hok hin' a' cap' H' hcap' hro') (h := ?_) (hro := (fun q hq => (hsub q hq).elim (fun h => .inl (by simp [h])) (fun h => .inl (by simp [h]))))
 rintro _ _ ⟨bg, Hg, rfl, rfl, hga⟩
 refine aG ?_
 generalize Gt.new c' [] [] = g at *
 repeat (first | refine gx ?_ | refine gN fun _ => ?_ | refine gB fun _ => ?_ | fail)
 refine aV (OpVal.ixSl tab_ok rfl rfl rfl rfl rfl hlt) ?_
 refine aV (OpVal.load tab_ok rfl (at_own 1 rfl) hld) ?_
 refine aC (o := hMay) (h := ?_) (hro := (fun q hq => (hsub q hq).elim (fun h => .inl (by simp [h])) (fun h => .inl (by simp [h]))))
 rintro _ _ ⟨mb, rfl, rfl, hmb⟩
 refine aG ?_
 obtain rfl : mb = true := hmb.2 hok
 repeat (first | refine gx ?_ | refine gN fun _ => ?_ | refine gB fun _ => ?_ | fail)
 refine aLp (fun m ρ1 L1 => ∃ (k : Int) (Hg : HL), -1 ≤ k ∧ k ≤ (c'.ps.length : Int) + 1 ∧ m = ((c'.ps.length : Int) + 1 - k).toNat ∧ GtAt g bg Hg ∧ ρ1 = [(8, .int .i64 k), (5, .pointer (some ⟨bg, 0, none⟩)), (4, .int .i64 (i : Int)), (3, .slice (some ⟨bt, 0, none⟩) 2 2)] ∧ L1 = [Hg, [(bt, .cells #[.int .i64 cw.fr, .int .i64 cw.dp, .int .i64 cw.se, .slice a1 cw.ps.length c1, .int .i64 cg.fr, .int .i64 cg.dp, .int .i64 cg.se, .slice a2 cg.ps.length c2] 24 (0, 0))], H2, H1]) (o := ⟨-1, Hg, by decide, by omega, rfl, hga, rfl, rfl⟩) (h := ?_)
 clear hga Hg
 rintro m ρ1 L1 ⟨k, Hg, hk1, hk2, rfl, hga, rfl, rfl⟩
 refine aG ?_
 repeat (first | refine gx ?_ | refine gN fun _ => ?_ | refine gB fun _ => ?_ | fail)
 refine aV (OpVal.ixSl tab_ok rfl rfl rfl rfl rfl hlt) ?_
 refine aV (OpVal.load tab_ok rfl (at_own 1 rfl) hl3) ?_
 repeat (first | refine gx ?_ | refine gN fun _ => ?_ | refine gB fun _ => ?_ | fail)
 rcases Classical.em (k ≤ (c'.ps.length : Int)) with hkz | hkz
 case' inr =>
  repeat (first | refine gh hkz ?_ | refine gN fun _ => ?_ | refine gB fun _ => ?_ | fail)
  refine aC (o := hRe bg Hg hga) (h := ?_) (hro := RoIn.own 0 rfl)
  rintro _ _ ⟨rfl, rfl⟩
  refine aG ?_
  repeat (first | refine gx ?_ | refine gN fun _ => ?_ | refine gB fun _ => ?_ | fail)
  refine aC (o := hEm bg Hg hga) (h := ?_) (hro := RoIn.own 0 rfl)
  rintro _ _ ⟨rfl, rfl⟩
  refine aG ?_
  repeat (first | refine gx ?_ | refine gN fun _ => ?_ | refine gB fun _ => ?_ | fail)
  refine aC (o := hNo bg Hg hga) (h := ?_) (hro := RoIn.own 0 rfl)
  rintro _ _ ⟨rfl, rfl⟩
  refine aG ?_
  repeat (first | refine gx ?_ | refine gN fun _ => ?_ | refine gB fun _ => ?_ | fail)
  refine aC (o := hEp bg Hg hga) (h := ?_) (hro := RoIn.own 0 rfl)
  rintro _ _ ⟨rfl, rfl⟩
  refine aG ?_
  repeat (first | refine gx ?_ | refine gN fun _ => ?_ | refine gB fun _ => ?_ | fail)
  refine W.order [1, 1, 1] rfl ?_
  refine aR (o := ⟨2 - (i + 1), by omega, i + 1, by omega, rfl, rfl, rfl⟩)
 have hRk := hRoot k bg Hg hga
 have hLk := fun H h => hLive k bg H h
 rw [r1] at hRk
 rw [r2] at hLk
 rcases Classical.em (0 ≤ k ∧ k < (c'.ps.length : Int)) with hkin | hkin
 ·
  rw [if_pos hkin] at hRk hLk
  have q1 := hkin.1
  have q2 := hkin.2
  repeat (first | refine gh hkz ?_ | refine gN fun _ => ?_ | refine gB fun _ => ?_ | fail)
  refine aC (o := hRk) (h := ?_)
  rintro _ _ ⟨Hg2, rfl, rfl, hga2⟩
  refine aG ?_
  repeat (first | refine gx ?_ | refine gN fun _ => ?_ | refine gB fun _ => ?_ | fail)
  repeat (first | refine gh q1 ?_ | refine gN fun _ => ?_ | refine gB fun _ => ?_ | fail)
  refine aV (OpVal.ixSl tab_ok rfl rfl rfl rfl rfl hlt) ?_
  repeat (first | refine gh q1 ?_ | refine gN fun _ => ?_ | refine gB fun _ => ?_ | fail)
  refine aV (OpVal.load tab_ok rfl (at_own 2 rfl) hl3) ?_
  repeat (first | refine gh (gc2 q1 q2) ?_ | refine gN fun _ => ?_ | refine gB fun _ => ?_ | fail)
  refine aBu (ps := [_]) ?_
  repeat (first | refine gx ?_ | refine gN fun _ => ?_ | refine gB fun _ => ?_ | fail)
  refine aV (neCap (f := (0, 1048576)) (g := (0, 1048576)) rfl rfl) ?_
  repeat (first | refine gx ?_ | refine gN fun _ => ?_ | refine gB fun _ => ?_ | fail)
  refine aC (o := hLk Hg2 hga2) (h := ?_)
  rintro _ _ ⟨Hg3, rfl, rfl, hga3⟩
  refine aG ?_
  repeat (first | refine gx ?_ | refine gN fun _ => ?_ | refine gB fun _ => ?_ | fail)
  refine W.order [0, 1, 1, 1] rfl ?_
  refine aR (o := ⟨((c'.ps.length : Int) + 1 - (k + 1)).toNat, by omega, k + 1, Hg3, by omega, by omega, rfl, hga3, rfl, rfl⟩)
 ·
  rw [if_neg hkin] at hRk hLk
  repeat (first | refine gh hkz ?_ | refine gN fun _ => ?_ | refine gB fun _ => ?_ | fail)
  refine aC (o := hRk) (h := ?_)
  rintro _ _ ⟨Hg2, rfl, rfl, hga2⟩
  refine aG ?_
  repeat (first | refine gx ?_ | refine gN fun _ => ?_ | refine gB fun _ => ?_ | fail)
  rcases Classical.em (0 ≤ k) with q1 | q1
  case' inl =>
   have q2 : ¬ k < (c'.ps.length : Int) := fun h => hkin ⟨q1, h⟩
   repeat (first | refine gh q1 ?_ | refine gN fun _ => ?_ | refine gB fun _ => ?_ | fail)
   refine aV (OpVal.ixSl tab_ok rfl rfl rfl rfl rfl hlt) ?_
   repeat (first | refine gh q1 ?_ | refine gN fun _ => ?_ | refine gB fun _ => ?_ | fail)
   refine aV (OpVal.load tab_ok rfl (at_own 2 rfl) hl3) ?_
   repeat (first | refine gh (gc2 q1 q2) ?_ | refine gN fun _ => ?_ | refine gB fun _ => ?_ | fail)
  case' inr =>
   repeat (first | refine gh q1 ?_ | refine gN fun _ => ?_ | refine gB fun _ => ?_ | fail)
  all_goals
   refine aBu (ps := []) ?_
   repeat (first | refine gx ?_ | refine gN fun _ => ?_ | refine gB fun _ => ?_ | fail)
   refine aV (neCap (f := (0, 0)) (g := (0, 0)) rfl rfl) ?_
   repeat (first | refine gx ?_ | refine gN fun _ => ?_ | refine gB fun _ => ?_ | fail)
   refine aC (o := hLk Hg2 hga2) (h := ?_)
   rintro _ _ ⟨Hg3, rfl, rfl, hga3⟩
   refine aG ?_
   repeat (first | refine gx ?_ | refine gN fun _ => ?_ | refine gB fun _ => ?_ | fail)
   refine W.order [0, 1, 1, 1] rfl ?_
   refine aR (o := ⟨((c'.ps.length : Int) + 1 - (k + 1)).toNat, by omega, k + 1, Hg3, by omega, by omega, rfl, hga3, rfl, rfl⟩)
end Go.Proofs.YtfpghdcjdnifcaaGreat
namespace Go.Proofs.YtfpghdcjdnifcaaGreat
open Go Go.Sl Go.RowKit Go.ChangeShapes Go.WideShapes Go.ChangeAt
set_option maxHeartbeats 4000000
set_option maxRecDepth 20000
def Cp.of (q : Int × Int × Int × Unit) : Cp := ⟨q.1, q.2.1, q.2.2.1⟩
section
variable {H : Type} {enc : TypeId × Value → H} {w : World} {spare : Nat → Bool} {held : Bool}
theorem opens_int3 : ∃ f Ok, Opens enc Tryz.prog w spare held 92 3 f Ok ∧ ∀ q, f q = (Cp.of q).l ∧ (Ok q → (Cp.of q).In) := by
 have hi : Opens enc Tryz.prog w spare held 3 1 (fun i => [Value.int .i64 i]) i64s := Opens.int Tryz.underlying3 (by kernel_rfl) (fun _ h => wf_i64 h)
 refine ⟨_, _, Opens.st (OpenF.cons hi (OpenF.cons hi (OpenF.cons hi OpenF.nil))) Tryz.underlying92 (by kernel_rfl) (by kernel_rfl) ?_, fun q => ⟨rfl, ?_⟩⟩
 ·
  intro q hq
  have h1 : Tryz.prog.cellsOf 3 = 1 := by kernel_rfl
  simp only [List.mem_cons, List.not_mem_nil, or_false] at hq
  rcases hq with rfl | rfl | rfl <;> exact h1
 ·
  rintro ⟨h1, h2, h3, _⟩
  exact ⟨h1, h2, h3⟩
theorem open_cfg {r : Reach} {b0 : Nat} {v : Value} {d : DataW H} {ps : List MemPlace} (hok : Value.okWide Tryz.prog w r b0 24 v) (h : DataW.Trod enc Tryz.prog w 0 spare held 24 v d ps) :
  ∃ (c : Cf) (a : Option Addr) (cap : Nat) (ro : HL), v = c.v a cap ∧ c.In ∧ c.ps.length ≤ 9223372036854775807 ∧ c.ps.length ≤ cap ∧ RoSl 3 (cps c.ps) a c.ps.length ro ∧ ∀ p ∈ ro, w.heap[p.1]? = some p.2 := by
 have hi : Opens enc Tryz.prog w spare held 3 1 (fun i => [Value.int .i64 i]) i64s := Opens.int Tryz.underlying3 (by kernel_rfl) (fun _ h => wf_i64 h)
 obtain ⟨f, Ok, hop, hq⟩ := opens_int3 (enc := enc) (w := w) (spare := spare) (held := held)
 obtain ⟨x, rfl, hx1, hx2, hx3, hs, -⟩ := Opens.argSt (Opens.st (OpenF.cons hi (OpenF.cons hi (OpenF.cons hi (OpenF.cons (Opens.sl hop (by decide) Tryz.underlying22 (by kernel_rfl)) OpenF.nil)))) Tryz.underlying24 (by kernel_rfl) (by kernel_rfl) (by
  intro q hq
  have h1 : Tryz.prog.cellsOf 3 = 1 := by kernel_rfl
  have h2 : Tryz.prog.cellsOf 22 = 1 := by kernel_rfl
  simp only [List.mem_cons, List.not_mem_nil, or_false] at hq
  rcases hq with rfl | rfl | rfl | rfl <;> first | exact h1 | exact h2)) Tryz.underlying24 hok h
 obtain ⟨y1, y2, y3, s, u⟩ := x
 have hc : s.xs.length ≤ s.cap := hs.cap
 have hm : s.cap ≤ maxLen := hs.max
 have hml : maxLen = 9223372036854775807 := by decide
 refine ⟨⟨y1, y2, y3, s.xs.map Cp.of⟩, s.a, s.cap, s.ro, ?_, ⟨hx1, hx2, hx3, fun p hp => ?_⟩, by rw [List.length_map]; omega, by rw [List.length_map]; exact hc, ?_, hs.mem⟩
 ·
  unfold Cf.v
  rw [List.length_map]
  rfl
 ·
  obtain ⟨z, hz, rfl⟩ := List.mem_map.1 hp
  exact (hq z).2 (hs.all z hz)
 ·
  have e : cps (s.xs.map Cp.of) = s.xs.flatMap f := by
   unfold cps
   rw [List.flatMap_map]
   congr 1
   funext x
   exact ((hq x).1).symm
  show RoSl 3 (cps (s.xs.map Cp.of)) s.a (s.xs.map Cp.of).length s.ro
  rw [e, List.length_map]
  exact hs.ro
end
end Go.Proofs.YtfpghdcjdnifcaaGreat
