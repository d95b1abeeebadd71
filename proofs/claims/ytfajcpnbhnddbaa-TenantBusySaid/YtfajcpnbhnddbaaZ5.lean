/-
  The walks of this claim and the rules that they use, part five: each theorem is a contract of one function, or what such a proof asks.
-/
import Derived.Test.YtfajcpnbhnddbaaZ4
import Derived.OpenShut
import Derived.ChangeArms
import Derived.ChangeMaps5
namespace Go.Sl
set_option linter.unusedVariables false
open Go Go.RowKit Go.ChangeShapes Go.WideShapes Go.Deep
theorem wf_i64 {a : Int} (h : (Lit.int .i64 a).wf = true) : i64s a := by
  simp only [Lit.wf, Bool.and_eq_true, decide_eq_true_eq] at h
  exact h
theorem wf_u8 {a : Int} (h : (Lit.int .u8 a).wf = true) : 0 ≤ a ∧ a < 256 := by
  simp only [Lit.wf, Bool.and_eq_true, decide_eq_true_eq] at h
  have : 0 ≤ a ∧ a ≤ 255 := h
  omega
theorem wf_u64 {a : Int} (h : (Lit.int .u64 a).wf = true) : 0 ≤ a ∧ a ≤ 18446744073709551615 := by
  simp only [Lit.wf, Bool.and_eq_true, decide_eq_true_eq] at h
  exact h
theorem wf_u32 {a : Int} (h : (Lit.int .u32 a).wf = true) : 0 ≤ a ∧ a ≤ 4294967295 := by
  simp only [Lit.wf, Bool.and_eq_true, decide_eq_true_eq] at h
  exact h
section
variable {H : Type} {enc : TypeId × Value → H} {P : Program} {w : World} {spare : Nat → Bool} {held : Bool} {X Y : Type}
structure Opens (enc : TypeId × Value → H) (P : Program) (w : World) (spare : Nat → Bool) (held : Bool) (t : TypeId) (m : Nat) (f : X → List Value) (Ok : X → Prop) : Prop where
  len : ∀ x, (f x).length = m
  cells : P.cellsOf t = m
  go : ∀ (fuel : Nat) (cs : List Value) (y : DataW H × List MemPlace), DataW.trod enc P w 0 spare held fuel t cs = some y → ∃ x, cs = f x ∧ Ok x
theorem Opens.int {t : TypeId} {kk : IntKind} {Ok : Int → Prop} (ht : P.underlying t = some (.int kk)) (hc : P.cellsOf t = 1) (hw : ∀ i, (Lit.int kk i).wf = true → Ok i) :
    Opens enc P w spare held t 1 (fun i => [Value.int kk i]) Ok :=
  ⟨fun _ => rfl, hc, fun _ _ _ h => by obtain ⟨i, rfl, _, hwf⟩ := DataW.trod_int ht h; exact ⟨i, rfl, hw i hwf⟩⟩
theorem Opens.bool {t : TypeId} (ht : P.underlying t = some .bool) (hc : P.cellsOf t = 1) : Opens enc P w spare held t 1 (fun b => [Value.bool b]) (fun _ => True) :=
  ⟨fun _ => rfl, hc, fun _ _ _ h => by obtain ⟨i, rfl, _⟩ := DataW.trod_bool ht h; exact ⟨i, rfl, trivial⟩⟩
theorem Opens.str {t : TypeId} (ht : P.underlying t = some .string) (hc : P.cellsOf t = 1) : Opens enc P w spare held t 1 (fun s => [Value.string s]) (fun s => s.size ≤ maxLen) :=
  ⟨fun _ => rfl, hc, fun _ _ _ h => by obtain ⟨s, rfl, _, hs⟩ := DataW.trod_string ht h; exact ⟨s, rfl, hs⟩⟩
theorem Opens.imp {t : TypeId} {m : Nat} {f f' : X → List Value} {Ok Ok' : X → Prop} (h : Opens enc P w spare held t m f Ok) (hf : ∀ x, f x = f' x) (hok : ∀ x, Ok x → Ok' x) : Opens enc P w spare held t m f' Ok' :=
  ⟨fun x => by rw [← hf]; exact h.len x, h.cells, fun fuel cs y hy => by obtain ⟨x, e, o⟩ := h.go fuel cs y hy; exact ⟨x, by rw [← hf]; exact e, hok x o⟩⟩
def SlD.l (s : SlD X) : List Value := [.slice s.a s.xs.length s.cap]
structure SlD.Ok (w : World) (m : Nat) (f : X → List Value) (okx : X → Prop) (s : SlD X) : Prop where
  ro : RoSl m (s.xs.flatMap f) s.a s.xs.length s.ro
  mem : ∀ p ∈ s.ro, w.heap[p.1]? = some p.2
  all : ∀ x ∈ s.xs, okx x
  cap : s.xs.length ≤ s.cap
  max : s.cap ≤ maxLen
theorem Opens.sl {t e : TypeId} {m : Nat} {f : X → List Value} {Ok : X → Prop} (he : Opens enc P w spare held e m f Ok) (hm : 0 < m) (ht : P.underlying t = some (.slice e)) (hct : P.cellsOf t = 1) :
    Opens enc P w spare held t 1 SlD.l (SlD.Ok w m f Ok) := by
  refine ⟨fun _ => rfl, hct, fun fuel cs y h => ?_⟩
  have hf := he.len
  have hC := he.cells
  rcases open_slice ht h with ⟨hcs, _⟩ | ⟨a', len, cap, m', n', D, Pl, hcs, _, hlc, hcm, hmm, _, hel⟩
  · exact ⟨⟨none, 0, [], []⟩, hcs, ⟨by simp, .inl ⟨rfl, rfl⟩⟩, fun _ h => (by cases h), fun _ h => (by cases h), Nat.le_refl _, by simp [maxLen]⟩
  · have hml : len ≤ m' := by rw [hmm]; split <;> omega
    rw [hC] at hel
    have hel2 : ∀ i, i < len → ∃ x, (∀ j, j < m → w.cell? (a'.add (i * m + j)) = (f x)[j]?) ∧ Ok x := by
      intro i hi
      obtain ⟨cs', h1, h2⟩ := hel i (by omega)
      obtain ⟨x, rfl, hx⟩ := he.go _ _ _ h2
      obtain ⟨_, _, h3⟩ := World.cells?_some h1
      refine ⟨x, fun j hj => ?_, hx⟩
      rw [← h3 j hj, Go.Deep.add_add]
    obtain ⟨xs, hxl, hxs⟩ := choose_list _ len hel2
    by_cases h0 : len = 0
    · subst h0
      have : xs = [] := List.eq_nil_of_length_eq_zero hxl
      subst this
      exact ⟨⟨some a', cap, [], []⟩, hcs, ⟨by simp, .inl ⟨rfl, rfl⟩⟩, fun _ h => (by cases h), fun _ h => (by cases h), Nat.zero_le _, hcm⟩
    · subst hxl
      have c0 := (hxs 0 (by omega)).1 0 hm
      simp only [Nat.zero_mul, Nat.zero_add] at c0
      have hlt0 : 0 < (f (xs[0]'(by omega))).length := by rw [hf]; exact hm
      rw [List.getElem?_eq_getElem hlt0] at c0
      obtain ⟨c, e', fr, hb, hsp, hc0⟩ := block_of_cell c0
      have hadd0 : a'.add 0 = a' := by simp [Addr.add]
      rw [hadd0] at hb hsp hc0
      obtain ⟨b, off, sp⟩ := a'
      simp only at hsp hb hc0
      subst hsp
      have hcell : ∀ i (hi : i < xs.length), ∀ j, j < m → c.toList[off + (i * m + j)]? = (f xs[i])[j]? := by
        intro i hi j hj
        have := (hxs i hi).1 j hj
        rw [Go.Sl.Addr.add_none', cell_of_row w b _ c e' fr hb] at this
        rw [← this]; simp
      have hlen : off + xs.length * m ≤ c.toList.length := by
        have h1 := hcell (xs.length - 1) (by omega) (m - 1) (by omega)
        have hfl : m - 1 < (f (xs[xs.length - 1]'(by omega))).length := by rw [hf]; omega
        rw [List.getElem?_eq_getElem hfl] at h1
        have h2 := (List.getElem?_eq_some_iff.1 h1).1
        have h3 : xs.length * m = (xs.length - 1) * m + m := by
          rw [← Nat.succ_mul]; congr 1; omega
        omega
      refine ⟨⟨some ⟨b, off, none⟩, cap, xs, [(b, .cells c e' fr)]⟩, hcs, ⟨flatMap_len f m hf xs, .inr ⟨b, off, c.toList, e', fr, rfl, by simp, hlen, ?_⟩⟩, ?_, ?_, hlc, hcm⟩
      · refine flatMap_of_segs f m hf xs _ (by simp at hlen ⊢; omega) (fun i hi => ?_)
        apply List.ext_getElem?
        intro j
        by_cases hj : j < m
        · have h1 : i * m + m ≤ xs.length * m := by rw [← Nat.succ_mul]; exact Nat.mul_le_mul_right m hi
          dsimp only
          rw [List.getElem?_take, if_pos hj, List.getElem?_drop, List.getElem?_take, if_pos (by omega), List.getElem?_drop, hcell i hi j hj]
        · rw [List.getElem?_eq_none (by simp; omega), List.getElem?_eq_none (by rw [hf]; omega)]
      · intro p hp
        simp at hp
        subst hp
        exact hb
      · intro x hx
        obtain ⟨i, hi, rfl⟩ := List.getElem_of_mem hx
        exact (hxs i hi).2
structure OpenF (enc : TypeId × Value → H) (P : Program) (w : World) (spare : Nat → Bool) (held : Bool) (fs : List (TypeId × Nat)) (m : Nat) (f : X → List Value) (Ok : X → Prop) : Prop where
  len : ∀ x, (f x).length = m
  go : ∀ (cs : List Value), cs.length = m → (∀ (i o : Nat) (t : TypeId) (k : Nat), fs[i]? = some (t, k) → o = ((fs.take i).map (·.2)).sum → ∃ n y, DataW.trod enc P w 0 spare held n t ((cs.drop o).take k) = some y) → ∃ x, cs = f x ∧ Ok x
theorem OpenF.nil : OpenF enc P w spare held [] 0 (fun _ : Unit => []) (fun _ => True) := ⟨fun _ => rfl, fun cs h _ => ⟨(), List.eq_nil_of_length_eq_zero h, trivial⟩⟩
theorem OpenF.cons {t : TypeId} {k m : Nat} {fs : List (TypeId × Nat)} {f : X → List Value} {g : Y → List Value} {Ok : X → Prop} {Ok' : Y → Prop} (h1 : Opens enc P w spare held t k f Ok) (h2 : OpenF enc P w spare held fs m g Ok') :
    OpenF enc P w spare held ((t, k) :: fs) (k + m) (fun q : X × Y => f q.1 ++ g q.2) (fun q => Ok q.1 ∧ Ok' q.2) := by
  refine ⟨fun q => by rw [List.length_append, h1.len, h2.len], fun cs hl hg => ?_⟩
  obtain ⟨n, y, h3⟩ := hg 0 0 t k rfl rfl
  obtain ⟨x, e1, o1⟩ := h1.go _ _ _ h3
  obtain ⟨z, e2, o2⟩ := h2.go (cs.drop k) (by rw [List.length_drop]; omega) (fun i o t' k' hi ho => by
    obtain ⟨n', y', h4⟩ := hg (i + 1) (k + o) t' k' (by simpa using hi) (by simp [ho])
    exact ⟨n', y', by rw [List.drop_drop]; exact h4⟩)
  refine ⟨(x, z), ?_, o1, o2⟩
  simp only [List.drop_zero] at e1
  rw [← e1, ← e2, List.take_append_drop]
def sums : Nat → List (TypeId × Nat) → List (TypeId × Nat)
  | _, [] => []
  | o, (t, k) :: r => (t, o) :: sums (o + k) r
theorem sums_get : ∀ (fs : List (TypeId × Nat)) (o i : Nat) (t : TypeId) (k : Nat), fs[i]? = some (t, k) → (sums o fs)[i]? = some (t, o + ((fs.take i).map (·.2)).sum)
  | (t', k') :: r, o, 0, t, k, h => by simp at h; obtain ⟨rfl, rfl⟩ := h; simp [sums]
  | (t', k') :: r, o, i + 1, t, k, h => by
    have := sums_get r (o + k') i t k (by simpa using h)
    simp only [sums, List.getElem?_cons_succ, this, List.take_succ_cons, List.map_cons, List.sum_cons]
    congr 2
    omega
  | [], _, _, _, _, h => by simp at h
theorem Opens.st {t : TypeId} {fa : Array Field} {fs : List (TypeId × Nat)} {m : Nat} {f : X → List Value} {Ok : X → Prop} (h : OpenF enc P w spare held fs m f Ok) (ht : P.underlying t = some (.struct fa))
    (hf : fa.toList.map (fun f => (f.type, f.offset)) = sums 0 fs) (hc : P.cellsOf t = m) (hcs : ∀ q ∈ fs, P.cellsOf q.1 = q.2) : Opens enc P w spare held t m f Ok := by
  refine ⟨h.len, hc, fun fuel cs y hy => ?_⟩
  obtain ⟨xs, n, _, _, hlen, hxl, hg⟩ := DataW.trod_struct ht hy
  refine h.go cs (by rw [hlen, hc]) (fun i o t' k hi ho => ?_)
  have h1 := sums_get fs 0 i t' k hi
  rw [← hf, List.getElem?_map, Option.map_eq_some_iff] at h1
  obtain ⟨fd, h2, h3⟩ := h1
  simp only [Prod.mk.injEq] at h3
  have h2' : fa[i]? = some fd := by simpa using h2
  have h4 := hg i fd h2'
  have hk := hcs (t', k) (List.mem_of_getElem? hi)
  simp only at hk
  rw [h3.1, h3.2, hk, Nat.zero_add, ← ho] at h4
  have hil : i < xs.length := by
    rw [hxl]
    exact (Array.getElem?_eq_some_iff.1 h2').1
  rw [List.getElem?_eq_getElem hil] at h4
  exact ⟨n, _, h4⟩
theorem Opens.argSl {t e : TypeId} {m : Nat} {f : X → List Value} {Ok : X → Prop} (he : Opens enc P w spare held e m f Ok) (hm : 0 < m) (ht : P.underlying t = some (.slice e)) (hct : P.cellsOf t = 1)
    {r : Reach} {b0 : Nat} {v : Value} {d : DataW H} {ps : List MemPlace} (hok : Value.okWide P w r b0 t v) (h : DataW.Trod enc P w 0 spare held t v d ps) : ∃ s : SlD X, v = .slice s.a s.xs.length s.cap ∧ SlD.Ok w m f Ok s := by
  obtain ⟨a, len, cap, rfl⟩ := okWide_slice ht hok
  obtain ⟨fuel, hf⟩ := h
  obtain ⟨s, e1, e2⟩ := (Opens.sl he hm ht hct).go _ _ _ hf
  simp only [Value.cells, SlD.l, List.cons.injEq, and_true] at e1
  exact ⟨s, e1, e2⟩
theorem Opens.argSt {t : TypeId} {fa : Array Field} {m : Nat} {f : X → List Value} {Ok : X → Prop} (ho : Opens enc P w spare held t m f Ok) (ht : P.underlying t = some (.struct fa))
    {r : Reach} {b0 : Nat} {v : Value} {d : DataW H} {ps : List MemPlace} (hok : Value.okWide P w r b0 t v) (h : DataW.Trod enc P w 0 spare held t v d ps) : ∃ x : X, v = .agg (f x).toArray ∧ Ok x := by
  obtain ⟨cs, rfl, _⟩ := okWide_struct ht hok
  obtain ⟨fuel, hf⟩ := h
  obtain ⟨x, e1, e2⟩ := ho.go _ _ _ hf
  refine ⟨x, ?_, e2⟩
  simp only [Value.cells] at e1
  rw [← e1]
end
end Go.Sl
namespace Go.Proofs.Ytfajcpnbhnddbaa
open Go Go.Sl Go.IntWalk
set_option maxHeartbeats 8000000
set_option maxRecDepth 20000
structure QD where
  op : Int
  page : Int
  off : Int
  len : Int
  b : SlD Int
def QD.l (o : QD) : List Value := [.int .i64 o.op, .int .i64 o.page, .int .i64 o.off, .int .i64 o.len, .slice o.b.a o.b.xs.length o.b.cap]
structure QD.Ok (o : QD) : Prop where
  inn : Rq.In ⟨o.op, o.page, o.off, o.len, o.b.xs⟩
  ro : RoSl 1 (u8s o.b.xs) o.b.a o.b.xs.length o.b.ro
  u8 : u8ok o.b.xs
def QD.q (o : QD) : Rq := ⟨o.op, o.page, o.off, o.len, o.b.xs⟩
def QD.of (q : Int × Int × Int × Int × SlD Int × Unit) : QD := ⟨q.1, q.2.1, q.2.2.1, q.2.2.2.1, q.2.2.2.2.1⟩
def qros (os : List QD) : HL := os.flatMap (·.b.ro)
section
variable {H : Type} {enc : TypeId × Value → H} {w : World} {spare : Nat → Bool} {held : Bool}
theorem opens_Q : ∃ f Ok, Opens enc Try.prog w spare held 41 5 f Ok ∧ ∀ q, f q = (QD.of q).l ∧ (Ok q → (QD.of q).Ok ∧ ∀ p ∈ (QD.of q).b.ro, w.heap[p.1]? = some p.2) := by
  have hi : Opens enc Try.prog w spare held 3 1 (fun i => [Value.int .i64 i]) i64s := Opens.int Try.underlying3 (by kernel_rfl) (fun _ h => wf_i64 h)
  have hb : Opens enc Try.prog w spare held 5 1 (fun i => [Value.int .u8 i]) (fun x => 0 ≤ x ∧ x < 256) := Opens.int Try.underlying5 (by kernel_rfl) (fun _ h => wf_u8 h)
  refine ⟨_, _, Opens.st (OpenF.cons hi (OpenF.cons hi (OpenF.cons hi (OpenF.cons hi (OpenF.cons (Opens.sl hb (by decide) Try.underlying39 (by kernel_rfl)) OpenF.nil))))) Try.underlying41 (by kernel_rfl) (by kernel_rfl) ?_, fun q => ⟨rfl, ?_⟩⟩
  · intro q hq
    have h1 : Try.prog.cellsOf 3 = 1 := by kernel_rfl
    have h2 : Try.prog.cellsOf 39 = 1 := by kernel_rfl
    simp only [List.mem_cons, List.not_mem_nil, or_false] at hq
    rcases hq with rfl | rfl | rfl | rfl | rfl <;> first | exact h1 | exact h2
  · rintro ⟨h1, h2, h3, h4, h6, _⟩
    exact ⟨⟨⟨h1, h2, h3, h4⟩, h6.ro, h6.all⟩, h6.mem⟩
theorem open_Qs {t : Nat} (ht : Try.prog.underlying t = some (.slice 41)) (hct : Try.prog.cellsOf t = 1) {r : Reach} {b0 : Nat} {v : Value} {d : DataW H} {ps : List MemPlace} (hok : Value.okWide Try.prog w r b0 t v) (h : DataW.Trod enc Try.prog w 0 spare held t v d ps) :
    ∃ (os : List QD) (a : Option Addr) (cap : Nat) (ro : HL), v = .slice a os.length cap ∧ RoSl 5 (os.flatMap QD.l) a os.length ro ∧ (∀ p ∈ ro ++ qros os, w.heap[p.1]? = some p.2) ∧ (∀ o ∈ os, QD.Ok o) := by
  obtain ⟨f, Ok, hop, hq⟩ := opens_Q (enc := enc) (w := w) (spare := spare) (held := held)
  obtain ⟨s, rfl, hs⟩ := Opens.argSl hop (by decide) ht hct hok h
  refine ⟨s.xs.map QD.of, s.a, s.cap, s.ro, by rw [List.length_map], ?_, fun p hp => ?_, fun o ho => ?_⟩
  · have e : (s.xs.map QD.of).flatMap QD.l = s.xs.flatMap f := by
      rw [List.flatMap_map]
      congr 1
      funext x
      exact ((hq x).1).symm
    rw [e, List.length_map]
    exact hs.ro
  · rcases List.mem_append.1 hp with hp | hp
    · exact hs.mem p hp
    · obtain ⟨o, ho, hpo⟩ := List.mem_flatMap.1 hp
      obtain ⟨x, hx, rfl⟩ := List.mem_map.1 ho
      exact ((hq x).2 (hs.all x hx)).2 p hpo
  · obtain ⟨x, hx, rfl⟩ := List.mem_map.1 ho
    exact ((hq x).2 (hs.all x hx)).1
theorem open_Q1 {r : Reach} {b0 : Nat} {v : Value} {d : DataW H} {ps : List MemPlace} (hok : Value.okWide Try.prog w r b0 41 v) (h : DataW.Trod enc Try.prog w 0 spare held 41 v d ps) :
    ∃ o : QD, v = .agg o.l.toArray ∧ (∀ p ∈ o.b.ro, w.heap[p.1]? = some p.2) ∧ o.Ok := by
  obtain ⟨f, Ok, hop, hq⟩ := opens_Q (enc := enc) (w := w) (spare := spare) (held := held)
  obtain ⟨x, rfl, hx⟩ := Opens.argSt hop Try.underlying41 hok h
  exact ⟨QD.of x, by rw [← (hq x).1], ((hq x).2 hx).2, ((hq x).2 hx).1⟩
end
theorem _root_.Go.Sl.OpVal.minL {P : Program} {n : Nat} {R : HL} {cx : Cx} {ρ : Env} {L : List HL} {t1 t2 ty : TypeId} {x y : Operand} {kk k2 : IntKind} {i j : Int} (hx : ev? ρ x = some (.int kk i)) (hy : ev? ρ y = some (.int k2 j)) (h : ¬ j < i) :
    OpVal P n R cx (.call ⟨.builtin .min, #[x, y], #[t1, t2]⟩) ty ρ L (.int kk i) := by
  have := OpVal.min2 (P := P) (n := n) (R := R) (cx := cx) (L := L) (t1 := t1) (t2 := t2) (ty := ty) hx hy
  rwa [if_neg h] at this
end Go.Proofs.Ytfajcpnbhnddbaa
namespace Go.Proofs.Ytfajcpnbhnddbaa
open Go Go.Sl Go.IntWalk
set_option maxHeartbeats 8000000
set_option maxRecDepth 20000
theorem rq_ok {o p f l : Int} {d : List Int} (h1 : 1 ≤ o ∧ o ≤ 8) (h2 : 0 ≤ p) (h3 : i64s f) (h4 : i64s l) (h5 : u8ok d) (h6 : d.length ≤ 1000000) : (⟨o, p, f, l, d⟩ : Rq).Ok := ⟨h1, h2, h3, h4, h5, h6⟩
theorem doPage_len (p : Pt) (page : Int) (g : Fr → Fr × Int) : (p.doPage page g).1.fs.length = p.fs.length := by
  unfold Pt.doPage
  split
  · simp [Pt.setF]
  · rfl
theorem get_len (p : Pt) (page off n : Int) : (p.get page off n).1.fs.length = p.fs.length := by
  unfold Pt.get
  split
  · simp [Pt.setF]
  · rfl
theorem victim_len (p : Pt) : p.victim.1.fs.length = p.fs.length := setAll_len _ _
theorem release_len (p : Pt) (i : Int) : (p.release i).1.fs.length = p.fs.length := by
  unfold Pt.release
  split
  · rfl
  · split
    · simp
    · rfl
theorem load_len (p : Pt) (i page : Int) (bs : List Int) : (p.load i page bs).1.fs.length = p.fs.length := by
  unfold Pt.load
  split
  · split
    · simp
    · rfl
  · rfl
theorem mStored_len (m : Mc) (p : Pt) (page : Int) : (mStored m p page).1.fs.length = p.fs.length := by
  unfold mStored
  split
  · simp only [release_len, clean_len]
  · simp only [clean_len]
theorem mStep_len (m : Mc) (p : Pt) (bs : List Int) : (mStep m p bs).2.1.fs.length = p.fs.length := by
  unfold mStep
  split
  · exact mStored_len m p _
  · split <;> rfl
theorem mEnd_len (m : Mc) (p : Pt) (e : Int) (bs : List Int) : (mEnd m p e bs).2.1.fs.length = p.fs.length := by
  unfold mEnd
  split
  · rfl
  · split
    · exact mStep_len m p bs
    · simp only
      split
      · rw [doPage_len, load_len, mStep_len]
      · exact mStep_len m p bs
theorem mBegin_len (m : Mc) (p : Pt) (q : Rq) : (mBegin m p q).2.1.fs.length = p.fs.length := by
  unfold mBegin mOp
  split
  · unfold mFetch
    split
    · exact doPage_len _ _ _
    · unfold mMiss
      split
      · exact victim_len p
      · simp only
        split
        · rw [release_len, victim_len]
        · exact victim_len p
  · split
    · exact get_len _ _ _ _
    · split
      · exact doPage_len _ _ _
      · split
        · exact doPage_len _ _ _
        · split
          · rfl
          · split
            · rfl
            · split
              · unfold mDiscard
                split
                · rfl
                · exact release_len _ _
              · rfl
theorem wStep_len (m : Mc) (p : Pt) (q : Rq) (f : Bool) : (wStep m p q f).2.fs.length = p.fs.length := by
  unfold wStep
  split
  · exact mBegin_len _ _ _
  · exact mEnd_len _ _ _ _
theorem mStep_todo (m : Mc) (p : Pt) (bs : List Int) : (mStep m p bs).1.todo = m.todo.tail := by
  unfold mStep
  split
  · rfl
  · split <;> rfl
theorem mEnd_todo (m : Mc) (p : Pt) (bs : List Int) : (mEnd m p 0 bs).1.todo = m.todo.tail := by
  unfold mEnd
  rw [if_neg (by simp)]
  split
  · exact mStep_todo m p bs
  · rename_i h
    rw [mStep_todo] at h
    exact (List.eq_nil_of_length_eq_zero (by omega)).symm
theorem wStep_todo {m : Mc} (p : Pt) (q : Rq) (h : m.todo ≠ []) : (wStep m p q false).1.todo = m.todo.tail := by
  unfold wStep
  rw [if_neg h]
  exact mEnd_todo m p _
def wLoop (q : Rq) : Nat → Mc × Pt → Mc × Pt
  | 0, s => s
  | k + 1, s => wStep (wLoop q k s).1 (wLoop q k s).2 q false
theorem wLoop_todo (q : Rq) (s : Mc × Pt) : ∀ k, k ≤ s.1.todo.length → (wLoop q k s).1.todo.length = s.1.todo.length - k
  | 0, _ => rfl
  | k + 1, h => by
    have := wLoop_todo q s k (by omega)
    show (wStep (wLoop q k s).1 (wLoop q k s).2 q false).1.todo.length = _
    rw [wStep_todo _ _ (by intro h0; rw [h0] at this; simp at this; omega), List.length_tail, this]
    omega
theorem wLoop_fs (q : Rq) (s : Mc × Pt) : ∀ k, (wLoop q k s).2.fs.length = s.2.fs.length
  | 0 => rfl
  | k + 1 => by
    show (wStep (wLoop q k s).1 (wLoop q k s).2 q false).2.fs.length = _
    rw [wStep_len]
    exact wLoop_fs q s k
theorem wStep_inv0 {m : Mc} {p : Pt} (h : MInv m p) {q : Rq} (hq : m.todo = [] → q.Ok) (hu : u8ok q.data) (f : Bool) : MInv (wStep m p q f).1 (wStep m p q f).2 := by
  unfold wStep
  split
  · rename_i ht
    exact begin_inv h ht (hq ht).op.1 (hq ht).op.2 hu
  · rename_i ht
    exact end_inv h ht _ (fill_ok hu 16) (fill_len _ _)
theorem wLoop_inv {q : Rq} (hu : u8ok q.data) {s : Mc × Pt} (h : MInv s.1 s.2) : ∀ k, k ≤ s.1.todo.length → MInv (wLoop q k s).1 (wLoop q k s).2
  | 0, _ => h
  | k + 1, hk => wStep_inv0 (wLoop_inv hu h k (by omega)) (fun h0 => by
      have := wLoop_todo q s k (by omega)
      rw [h0] at this
      simp at this
      omega) hu false
def wRun (m : Mc) (p : Pt) (q : Rq) : Mc × Pt := wLoop q (wStep m p q false).1.todo.length (wStep m p q false)
theorem wRun_inv {m : Mc} {p : Pt} (h : MInv m p) {q : Rq} (hq : q.Ok) : MInv (wRun m p q).1 (wRun m p q).2 := wLoop_inv hq.u8 (wStep_inv h hq false) _ (Nat.le_refl _)
theorem wRun_todo (m : Mc) (p : Pt) (q : Rq) : (wRun m p q).1.todo = [] := by
  have := wLoop_todo q (wStep m p q false) _ (Nat.le_refl _)
  exact List.eq_nil_of_length_eq_zero (by unfold wRun; omega)
theorem wRun_len (m : Mc) (p : Pt) (q : Rq) : (wRun m p q).2.fs.length = p.fs.length := by
  unfold wRun
  rw [wLoop_fs, wStep_len]
theorem begin_todo {m : Mc} (p : Pt) (q : Rq) (h : m.todo = []) : (mBegin m p q).1.todo.length ≤ 4 ∨ (mBegin m p q).1.todo.length ≤ 2 * p.fs.length + 1 := by
  have hs : ∀ page, (planFlush (selD p page p.dirty)).length ≤ 2 * p.fs.length + 1 := fun page => by
    have h1 := selD_len p page p.dirty
    have h2 := dirty_len p
    unfold planFlush
    rw [List.length_append, pages_len, List.length_singleton]
    omega
  have hz : m.todo.length ≤ 4 := by rw [h]; decide
  unfold mBegin mOp
  split
  · unfold mFetch
    split
    · exact .inl hz
    · unfold mMiss
      split
      · exact .inl hz
      · exact .inl (plan_len _ _ _)
  · split
    · exact .inl hz
    · split
      · exact .inl hz
      · split
        · exact .inl hz
        · split
          · exact .inr (hs _)
          · split
            · exact .inr (hs _)
            · split <;> exact .inl hz
end Go.Proofs.Ytfajcpnbhnddbaa
namespace Go.Proofs.Ytfajcpnbhnddbaa
open Go Go.Sl Go.IntWalk
set_option maxHeartbeats 8000000
set_option maxRecDepth 20000
set_option linter.unusedVariables false
def ind (b : Bool) : Int := if b = true then 1 else 0
theorem ind01 (b : Bool) : ind b = 0 ∨ ind b = 1 := by cases b <;> simp [ind]
structure Sm (n : Int) (c : C6) : Prop where
  h : 0 ≤ c.h ∧ c.h ≤ n
  m : 0 ≤ c.m ∧ c.m ≤ n
  e : 0 ≤ c.e ∧ c.e ≤ n
  r : 0 ≤ c.r ∧ c.r ≤ n
  w : 0 ≤ c.w ∧ c.w ≤ n
  f : 0 ≤ c.f ∧ c.f ≤ n
theorem tog2 {a b : Int} (ha : 0 ≤ a ∧ a ≤ 1000) (hb : 0 ≤ b ∧ b ≤ 1) : tog (tog 0 a) b = a + b := by
  unfold tog; rw [if_pos (by omega), if_pos (by omega)]; omega
theorem sum2_small {a b : C6} (ha : Sm 1000 a) (hb : Sm 1 b) : sumC [a, b] = ⟨a.h + b.h, a.m + b.m, a.e + b.e, a.r + b.r, a.w + b.w, a.f + b.f⟩ := by
  rw [← tog2 ha.h hb.h, ← tog2 ha.m hb.m, ← tog2 ha.e hb.e, ← tog2 ha.r hb.r, ← tog2 ha.w hb.w, ← tog2 ha.f hb.f]
  rfl
def pend (l : List Io) : Int := ((l.filter fun x => decide (x.1 = 2 ∧ x.2.2 = 1)).length : Int)
theorem pend_cons (x : Io) (l : List Io) : pend (x :: l) = ind (decide (x.1 = 2 ∧ x.2.2 = 1)) + pend l := by
  unfold pend ind
  rw [List.filter_cons]
  split
  · rw [List.length_cons]; omega
  · omega
theorem pend_fetch (p : Int) (d : Bool) (o : Int) : pend (planFetch p d o) = ind d := by cases d <;> rfl
structure Fin2 (c0 c' : C6) (op : Int) (z : Rs) : Prop where
  h : c'.h = c0.h + ind (decide (op = 1) && z.hit)
  m : c'.m = c0.m + ind (decide (op = 1) && !z.hit && decide (z.errno ≠ 13))
  e : c0.e ≤ c'.e ∧ c'.e - c0.e ≤ c'.m - c0.m
  r : c'.r = c0.r + ind (decide (op = 2) && decide (z.errno = 0))
  w : c'.w = c0.w + ind (decide (op = 3) && decide (z.errno = 0))
  f : c'.f = c0.f
  st : op = 8 → z.c = c'
structure Bz (c0 : C6) (q : Rq) (t : Tn) : Prop where
  todo : t.m.todo ≠ []
  js : ∃ id, t.js = [(id, q)]
  out : t.out = []
  op : t.m.op = q.op
  qop : q.op = 1 ∨ q.op = 5 ∨ q.op = 6
  c : ∃ ev, t.c = ⟨c0.h, c0.m + ind (decide (q.op = 1)), c0.e + ev, c0.r, c0.w, c0.f⟩ ∧ 0 ≤ ev ∧ ev + (if q.op = 1 then pend t.m.todo else 0) ≤ ind (decide (q.op = 1))
theorem pin_err {p : Pt} (hi : p.Inv) {page : Int} (h : (mget p.tbl page).isSome = true) : (p.doPage page Fr.pin).2 = 0 ∨ (p.doPage page Fr.pin).2 = 13 := by
  obtain ⟨i, hg⟩ := Option.isSome_iff_exists.1 h
  obtain ⟨j, hj, rfl, hu, hpg⟩ := hi.tbl page i hg
  rw [Pt.doPage_some hj hg]
  show (Fr.pin p.fs[j]).2 = 0 ∨ (Fr.pin p.fs[j]).2 = 13
  unfold Fr.pin
  rw [hu, if_neg (by simp)]
  split
  · exact .inr rfl
  · exact .inl rfl
def Ended (c0 : C6) (q : Rq) (t : Tn) : Prop := t.m.todo = [] ∧ t.js = [] ∧ ∃ r, t.out = [r] ∧ Fin2 c0 t.c q.op r
theorem tell_done {t : Tn} {x : Re} (h : x.done = true) {id : Int} {q : Rq} (hj : t.js = [(id, q)]) (ho : t.out = []) (tick : Int) :
    t.tell x tick = { t with c := sumC [t.c, x.add], js := [], out := [⟨id, x.errno, x.hit, tick, x.data, if q.op = 8 then sumC [t.c, x.add] else C6.none⟩] } := by
  unfold Tn.tell
  rw [if_pos h, hj, ho]
  rfl
theorem tell_more {t : Tn} {x : Re} (h : x.done = false) (tick : Int) : t.tell x tick = { t with c := sumC [t.c, x.add] } := by
  unfold Tn.tell
  rw [if_neg (by rw [h]; simp)]
structure Bg (m' : Mc) (x : Re) (q : Rq) : Prop where
  sm : Sm 1 x.add
  h : x.done = true → x.add.h = ind (decide (q.op = 1) && x.hit)
  m : x.done = true → x.add.m = ind (decide (q.op = 1) && !x.hit && decide (x.errno ≠ 13))
  e : x.done = true → x.add.e = 0
  r : x.done = true → x.add.r = ind (decide (q.op = 2) && decide (x.errno = 0))
  w : x.done = true → x.add.w = ind (decide (q.op = 3) && decide (x.errno = 0))
  f : x.add.f = 0
  bz : x.done = false → (q.op = 1 ∨ q.op = 5 ∨ q.op = 6) ∧ x.add.h = 0 ∧ x.add.m = ind (decide (q.op = 1)) ∧ x.add.r = 0 ∧ x.add.w = 0 ∧ 0 ≤ x.add.e ∧ x.add.e + (if q.op = 1 then pend m'.todo else 0) ≤ ind (decide (q.op = 1))
  op : m'.op = q.op
theorem sm01 {c : C6} (h : c.h = 0 ∨ c.h = 1 := by first | exact .inl rfl | exact .inr rfl) (m : c.m = 0 ∨ c.m = 1 := by first | exact .inl rfl | exact .inr rfl) (e : c.e = 0 ∨ c.e = 1 := by first | exact .inl rfl | exact .inr rfl) (r : c.r = 0 ∨ c.r = 1 := by first | exact .inl rfl | exact .inr rfl) (w : c.w = 0 ∨ c.w = 1 := by first | exact .inl rfl | exact .inr rfl) (f : c.f = 0 ∨ c.f = 1 := by first | exact .inl rfl | exact .inr rfl) : Sm 1 c :=
  ⟨by omega, by omega, by omega, by omega, by omega, by omega⟩
theorem begin_bg {m : Mc} {p : Pt} (hi : p.Inv) (q : Rq) (h1 : 1 ≤ q.op) (h8 : q.op ≤ 8) : Bg (mBegin m p q).1 (mBegin m p q).2.2 q := by
  have hz : Sm 1 C6.none := sm01
  have plain : ∀ (m' : Mc) (x : Re), m'.op = q.op → x.done = true → x.add = C6.none → x.hit = false → q.op ≠ 1 → q.op ≠ 2 → q.op ≠ 3 → Bg m' x q := by
    intro m' x a1 a2 a3 a4 a5 a6 a7
    have b1 : decide (q.op = 1) = false := decide_eq_false a5
    have b2 : decide (q.op = 2) = false := decide_eq_false a6
    have b3 : decide (q.op = 3) = false := decide_eq_false a7
    refine ⟨by rw [a3]; exact hz, fun _ => ?_, fun _ => ?_, fun _ => ?_, fun _ => ?_, fun _ => ?_, ?_, fun h => (by rw [a2] at h; cases h), a1⟩ <;> rw [a3] <;> first | rfl | (simp [b1, b2, b3, ind]; done) | skip
    all_goals simp [b1, b2, b3, ind, C6.none]
  have flush : ∀ (m' : Mc), m'.op = q.op → (q.op = 5 ∨ q.op = 6) → Bg m' ⟨false, 0, false, [], C6.none⟩ q := by
    intro m' a1 a2
    have b1 : decide (q.op = 1) = false := decide_eq_false (by omega)
    refine ⟨hz, fun h => (by cases h), fun h => (by cases h), fun h => (by cases h), fun h => (by cases h), fun h => (by cases h), rfl, fun _ => ⟨by omega, rfl, by rw [b1]; rfl, rfl, rfl, Int.le_refl _, ?_⟩, a1⟩
    rw [if_neg (by omega), b1]
    exact Int.le_refl _
  unfold mBegin mOp
  split
  · rename_i ho
    have b1 : decide (q.op = 1) = true := decide_eq_true ho
    have b2 : decide (q.op = 2) = false := decide_eq_false (by omega)
    have b3 : decide (q.op = 3) = false := decide_eq_false (by omega)
    unfold mFetch
    split
    · rename_i hs
      rcases pin_err hi hs with h0 | h0
      · simp only [h0, if_true]
        exact ⟨sm01, fun _ => by rw [b1]; rfl, fun _ => by rw [b1]; rfl, fun _ => rfl, fun _ => by rw [b2]; rfl, fun _ => by rw [b3]; rfl, rfl, fun h => (by cases h), rfl⟩
      · simp only [h0]
        rw [if_neg (by decide)]
        exact ⟨hz, fun _ => by rw [b1]; rfl, fun _ => by rw [b1]; rfl, fun _ => rfl, fun _ => by rw [b2]; rfl, fun _ => by rw [b3]; rfl, rfl, fun h => (by cases h), rfl⟩
    · unfold mMiss
      split
      · exact ⟨sm01, fun _ => by rw [b1]; rfl, fun _ => by rw [b1]; rfl, fun _ => rfl, fun _ => by rw [b2]; rfl, fun _ => by rw [b3]; rfl, rfl, fun h => (by cases h), rfl⟩
      · rename_i i _
        generalize p.victim.1.at_ (i : Int) = f
        refine ⟨?_, fun h => (by cases h), fun h => (by cases h), fun h => (by cases h), fun h => (by cases h), fun h => (by cases h), rfl, fun _ => ⟨.inl ho, rfl, by rw [b1]; rfl, rfl, rfl, ?_, ?_⟩, rfl⟩
        · simp only; split <;> exact sm01
        · simp only; split <;> decide
        · simp only
          rw [if_pos ho, b1, pend_fetch]
          obtain ⟨fu, fd, fr, fn, fp, fb⟩ := f
          cases fu <;> cases fd <;> simp [ind]
  · rename_i n1
    have b1 : decide (q.op = 1) = false := decide_eq_false n1
    split
    · rename_i ho
      have b2 : decide (q.op = 2) = true := decide_eq_true ho
      have b3 : decide (q.op = 3) = false := decide_eq_false (by omega)
      unfold mRead
      rcases Classical.em ((p.get q.page q.off q.len).2.2 = 0) with h0 | h0
      · simp only [h0, if_true]
        exact ⟨sm01, fun _ => by rw [b1]; rfl, fun _ => by rw [b1]; rfl, fun _ => rfl, fun _ => by rw [b2]; rfl, fun _ => by rw [b3]; rfl, rfl, fun h => (by cases h), rfl⟩
      · simp only [if_neg h0]
        have b4 : decide ((Re.dn (p.get q.page q.off q.len).2.2).errno = 0) = false := decide_eq_false h0
        exact ⟨hz, fun _ => by rw [b1]; rfl, fun _ => by rw [b1]; rfl, fun _ => rfl, fun _ => by rw [b2, b4]; rfl, fun _ => by rw [b3]; rfl, rfl, fun h => (by cases h), rfl⟩
    · rename_i n2
      have b2 : decide (q.op = 2) = false := decide_eq_false n2
      split
      · rename_i ho
        have b3 : decide (q.op = 3) = true := decide_eq_true ho
        unfold mWrite
        rcases Classical.em ((p.doPage q.page fun f => f.put q.off q.data).2 = 0) with h0 | h0
        · simp only [h0, if_true]
          exact ⟨sm01, fun _ => by rw [b1]; rfl, fun _ => by rw [b1]; rfl, fun _ => rfl, fun _ => by rw [b2]; rfl, fun _ => by rw [b3]; rfl, rfl, fun h => (by cases h), rfl⟩
        · simp only [if_neg h0]
          have b4 : decide ((Re.dn (p.doPage q.page fun f => f.put q.off q.data).2).errno = 0) = false := decide_eq_false h0
          exact ⟨hz, fun _ => by rw [b1]; rfl, fun _ => by rw [b1]; rfl, fun _ => rfl, fun _ => by rw [b2]; rfl, fun _ => by rw [b3, b4]; rfl, rfl, fun h => (by cases h), rfl⟩
      · rename_i n3
        split
        · exact plain _ _ rfl rfl rfl rfl n1 n2 n3
        · split
          · exact flush _ rfl (.inl ‹_›)
          · split
            · exact flush _ rfl (.inr ‹_›)
            · split
              · exact plain _ _ rfl rfl rfl rfl n1 n2 n3
              · exact plain _ _ rfl rfl rfl rfl n1 n2 n3
theorem Sm.up {n k : Int} {c : C6} (h : Sm n c) (hk : n ≤ k) : Sm k c := ⟨⟨h.h.1, by have := h.h; omega⟩, ⟨h.m.1, by have := h.m; omega⟩, ⟨h.e.1, by have := h.e; omega⟩, ⟨h.r.1, by have := h.r; omega⟩, ⟨h.w.1, by have := h.w; omega⟩, ⟨h.f.1, by have := h.f; omega⟩⟩
theorem req_begin {t : Tn} (hi : TInv 1 t) (ht : t.m.todo = []) (hj : t.js = []) (ho : t.out = []) (hs : Sm 100 t.c) {q : Rq} (hq : rcheck q t.pages = 0) (hu : u8ok q.data) (tick : Int) :
    (t.submit 1 q tick).2 = (t.ids + 1, 0) ∧ (Ended t.c q (t.submit 1 q tick).1 ∨ (Bz t.c q (t.submit 1 q tick).1 ∧ ((t.submit 1 q tick).1.m.todo.length ≤ 4 ∨ (t.submit 1 q tick).1.m.todo.length ≤ 2 * t.p.fs.length + 1))) := by
  have hop := (check_ok hq hu).ok.op
  have hB := begin_bg (m := t.m) hi.mi.inv q hop.1 hop.2
  have hd := begin_done (p := t.p) ht q
  have hl := begin_todo t.p q ht
  unfold Tn.submit
  rw [if_neg (by rw [hq]; simp), if_neg (by rw [hj]; decide)]
  refine ⟨rfl, ?_⟩
  simp only
  rw [go_begun (t := { t with js := t.js ++ [(t.ids + 1, q)], ids := t.ids + 1 }) ht (by simp) tick]
  have hb : ({ t with js := t.js ++ [(t.ids + 1, q)], ids := t.ids + 1 } : Tn).begun tick = ({ t with m := (mBegin t.m t.p q).1, p := (mBegin t.m t.p q).2.1, js := [(t.ids + 1, q)], ids := t.ids + 1 } : Tn).tell (mBegin t.m t.p q).2.2 tick := by
    unfold Tn.begun; simp only [hj, List.nil_append, List.headD_cons]
  rw [hb]
  generalize mBegin t.m t.p q = o at *
  obtain ⟨m', p', x⟩ := o
  simp only at *
  have hsum := sum2_small (hs.up (show (100 : Int) ≤ 1000 by decide)) hB.sm
  cases hx : x.done with
  | true =>
    rw [tell_done (t := ⟨m', p', [(t.ids + 1, q)], t.pages, t.ids + 1, t.c, t.out⟩) hx rfl ho, go_quiet (.inr rfl)]
    refine .inl ⟨hd.2.1 hx, rfl, _, rfl, ?_⟩
    have e1 := hB.h hx
    have e2 := hB.m hx
    have e3 := hB.e hx
    have e4 := hB.r hx
    have e5 := hB.w hx
    have e6 := hB.f
    have i2 := ind01 (decide (q.op = 1) && !x.hit && decide (x.errno ≠ 13))
    simp only
    rw [hsum]
    refine ⟨by simp only; rw [e1], by simp only; rw [e2], ⟨by simp only; omega, by simp only; omega⟩, by simp only; rw [e4], by simp only; rw [e5], by simp only; omega, fun h => by rw [if_pos h]⟩
  | false =>
    obtain ⟨f1, f2, f3, f4, f5, f6, f7⟩ := hB.bz hx
    have hne := hd.2.2 hx
    rw [tell_more hx, go_quiet (.inl hne)]
    refine .inr ⟨⟨hne, ⟨_, rfl⟩, ho, hB.op, f1, x.add.e, ?_, f6, f7⟩, hl⟩
    simp only
    rw [hsum, f2, f3, f4, f5, hB.f]
    simp
theorem step_add (m : Mc) (p : Pt) (bs : List Int) : (mStep m p bs).2.2 = ⟨0, 0, ind (decide (m.io.1 = 2 ∧ m.io.2.2 = 1) && decide (m.op = 1)), 0, 0, 0⟩ := by
  unfold mStep
  split
  · rename_i h
    unfold mStored
    split
    · rename_i h2
      simp [ind, h2, h]
    · rename_i h2
      simp [ind, h2, C6.none]
  · rename_i h
    have : decide (m.io.1 = 2 ∧ m.io.2.2 = 1) = false := decide_eq_false h
    rw [this]
    split <;> rfl
theorem mStep_op' (m : Mc) (p : Pt) (bs : List Int) : (mStep m p bs).1.op = m.op := by
  unfold mStep
  split
  · rfl
  · split <;> rfl
theorem z01 : (0 : Int) ≤ 0 ∧ (0 : Int) ≤ 1 := by decide
theorem req_step {c0 : C6} {q : Rq} {t : Tn} (hb : Bz c0 q t) (hs : Sm 100 c0) (bs : List Int) (tick : Int) :
    (Ended c0 q (t.over 0 bs tick) ∨ Bz c0 q (t.over 0 bs tick)) ∧ (t.over 0 bs tick).m.todo.length < t.m.todo.length := by
  obtain ⟨id, hj⟩ := hb.js
  obtain ⟨ev, hc, he0, he1⟩ := hb.c
  have ht := mEnd_todo t.m t.p bs
  have ha := step_add t.m t.p bs
  have ho := mStep_op' t.m t.p bs
  have hst := mStep_todo t.m t.p bs
  have i1 := ind01 (decide (q.op = 1))
  have hqop := hb.qop
  have hmop := hb.op
  have hne := hb.todo
  have h2 : decide (q.op = 2) = false := decide_eq_false (by omega)
  have h3 : decide (q.op = 3) = false := decide_eq_false (by omega)
  unfold Tn.over mEnd
  rw [if_neg (by decide : ¬ (0 : Int) ≠ 0)]
  have hpd : 0 ≤ pend t.m.todo.tail := Int.natCast_nonneg _
  have hpe : ind (decide (t.m.io.1 = 2 ∧ t.m.io.2.2 = 1)) + pend t.m.todo.tail = pend t.m.todo := by
    unfold Mc.io
    cases h0 : t.m.todo with
    | nil => exact absurd h0 hne
    | cons x rest => rw [pend_cons]; rfl
  have i3 := ind01 (decide (t.m.io.1 = 2 ∧ t.m.io.2.2 = 1))
  have hlen : t.m.todo.tail.length < t.m.todo.length := by
    have := List.length_pos_iff.2 hne
    rw [List.length_tail]; omega
  obtain ⟨x, hx⟩ : ∃ x : Int, x = ind (decide (t.m.io.1 = 2 ∧ t.m.io.2.2 = 1) && decide (t.m.op = 1)) := ⟨_, rfl⟩
  have hx2 : 0 ≤ x ∧ x ≤ 1 ∧ ev + x + (if q.op = 1 then pend t.m.todo.tail else 0) ≤ ind (decide (q.op = 1)) := by
    rw [hmop] at hx
    by_cases h1 : q.op = 1
    · have h1d : decide (q.op = 1) = true := decide_eq_true h1
      rw [h1d, Bool.and_true] at hx
      rw [if_pos h1] at he1 ⊢
      omega
    · have h1d : decide (q.op = 1) = false := decide_eq_false h1
      rw [h1d, Bool.and_false] at hx
      have : x = 0 := hx
      rw [if_neg h1] at he1 ⊢
      omega
  rw [← hx] at ha
  have hsm : Sm 1 (⟨0, 0, x, 0, 0, 0⟩ : C6) := ⟨z01, z01, ⟨hx2.1, hx2.2.1⟩, z01, z01, z01⟩
  have hsc : Sm 1000 t.c := by
    rw [hc]
    have := hs.h; have := hs.m; have := hs.e; have := hs.r; have := hs.w; have := hs.f
    exact ⟨by simp only; omega, by simp only; omega, ⟨by simp only; omega, by simp only; split at he1 <;> omega⟩, by simp only; omega, by simp only; omega, by simp only; omega⟩
  have hsum := sum2_small hsc hsm
  split
  · rename_i hpos
    have hne2 : (mStep t.m t.p bs).1.todo ≠ [] := List.length_pos_iff.1 hpos
    simp only
    rw [tell_more (x := ⟨false, 0, false, [], (mStep t.m t.p bs).2.2⟩) rfl, go_quiet (.inl hne2)]
    refine ⟨.inr ⟨hne2, ⟨id, hj⟩, hb.out, by simp only; rw [ho, hmop], hqop, ev + x, ?_, by omega, by simp only; rw [hst]; exact hx2.2.2⟩, by simp only; rw [hst]; exact hlen⟩
    simp only
    rw [ha, hsum, hc]
    simp only [C6.mk.injEq]
    refine ⟨by omega, by omega, by omega, by omega, by omega, by omega⟩
  · rename_i hpos
    simp only
    rw [tell_done (t := ⟨Mc.idle, _, t.js, t.pages, t.ids, t.c, t.out⟩) (x := ⟨true, 0, false, [], (mStep t.m t.p bs).2.2⟩) rfl hj hb.out, go_quiet (.inr rfl)]
    refine ⟨.inl ⟨rfl, rfl, _, rfl, ?_⟩, List.length_pos_iff.2 hne⟩
    simp only
    rw [ha, hsum, hc]
    have b4 : (decide (q.op = 1) && !false && decide ((0 : Int) ≠ 13)) = decide (q.op = 1) := by simp
    refine ⟨by simp [ind], by simp only; rw [b4]; omega, ⟨by simp only; omega, by simp only; split at hx2 <;> omega⟩, by simp only; rw [h2]; simp [ind], by simp only; rw [h3]; simp [ind], by simp, fun h => by omega⟩
end Go.Proofs.Ytfajcpnbhnddbaa
namespace Go.Proofs.Ytfajcpnbhnddbaa
open Go Go.Sl Go.IntWalk
set_option maxHeartbeats 16000000
set_option maxRecDepth 20000
set_option linter.unusedVariables false
theorem gq_check (q : Rq) (n : Int) (hn : 0 < n) : rcheck (gq q n) n = 0 := by
  have h0 := around_range q.off 33 (by decide)
  have h1 := around_range q.page n hn
  have h2 := around_range q.len 33 (by decide)
  have h3 := around_range q.len (33 - around q.off 33) (by omega)
  have h4 : ((fill q.data (around q.len 33).toNat).take (32 - around q.off 33).toNat).length ≤ (32 - around q.off 33).toNat := by rw [List.length_take]; omega
  unfold gq
  generalize (fill q.data (around q.len 33).toNat).take (32 - around q.off 33).toNat = dat at *
  generalize around q.len (33 - around q.off 33) = ln at *
  generalize around q.off 33 = of at *
  generalize around q.page n = pg at *
  rcases gop_cases q.op with h | h | h | h | h | h | h | h <;> rw [h]
  all_goals
    unfold rcheck rnamed
    simp
    try omega
theorem run_same (tick : Int) : ∀ (n : Nat) (t : Tn), (t.run tick n).p.fs.length = t.p.fs.length ∧ (t.run tick n).pages = t.pages
  | 0, t => ⟨rfl, rfl⟩
  | n + 1, t => by
    unfold Tn.run
    split
    · have h := run_same tick n (t.begun tick)
      rw [h.1, h.2]
      unfold Tn.begun Tn.tell
      split <;> exact ⟨mBegin_len _ _ _, rfl⟩
    · exact ⟨rfl, rfl⟩
theorem submit_same (d : Nat) (t : Tn) (q : Rq) (tick : Int) : (t.submit d q tick).1.p.fs.length = t.p.fs.length ∧ (t.submit d q tick).1.pages = t.pages := by
  unfold Tn.submit
  split
  · exact ⟨rfl, rfl⟩
  · split
    · exact ⟨rfl, rfl⟩
    · exact run_same tick _ _
theorem over_same (t : Tn) (e : Int) (bs : List Int) (tick : Int) : (t.over e bs tick).p.fs.length = t.p.fs.length ∧ (t.over e bs tick).pages = t.pages := by
  unfold Tn.over Tn.go
  have h := run_same tick ((({ t with m := (mEnd t.m t.p e bs).1, p := (mEnd t.m t.p e bs).2.1 } : Tn).tell (mEnd t.m t.p e bs).2.2 tick)).js.length (({ t with m := (mEnd t.m t.p e bs).1, p := (mEnd t.m t.p e bs).2.1 } : Tn).tell (mEnd t.m t.p e bs).2.2 tick)
  rw [h.1, h.2]
  unfold Tn.tell
  split <;> exact ⟨mEnd_len _ _ _ _, rfl⟩
theorem over_ids (t : Tn) (e : Int) (bs : List Int) (tick : Int) : (t.over e bs tick).ids = t.ids := by
  unfold Tn.over Tn.go
  rw [run_ids, tell_ids]
theorem submit_ids {d : Nat} {t : Tn} {q : Rq} (hq : rcheck q t.pages = 0) (hd : ¬ d ≤ t.js.length) (tick : Int) : (t.submit d q tick).1.ids = t.ids + 1 := by
  unfold Tn.submit
  rw [if_neg (by rw [hq]; simp), if_neg hd]
  exact run_ids _ _ _
structure CInv (i : Nat) (t : Tn) (w : C6) : Prop where
  inv : TInv 1 t
  todo : t.m.todo = []
  js : t.js = []
  out : t.out = []
  ids : t.ids = (i : Int)
  pg : t.pages = 4
  fs : t.p.fs.length = 2
  sm : Sm i t.c
  c : t.c = ⟨w.h, w.m, t.c.e, w.r, w.w, 0⟩
  w : w.e = 0 ∧ w.f = 0 ∧ t.c.e ≤ w.m
theorem cnext {i : Nat} {t t' : Tn} {w w' : C6} {op : Int} {r : Rs} (h : CInv i t w) (hi : TInv 1 t') (hf : Fin2 t.c t'.c op r) (ht : t'.m.todo = []) (hj : t'.js = []) (hid : t'.ids = (i : Int) + 1) (hpg : t'.pages = 4) (hfs : t'.p.fs.length = 2)
    (h1 : w'.h = w.h + ind (decide (op = 1) && r.hit)) (h2 : w'.m = w.m + ind (decide (op = 1) && !r.hit && decide (r.errno ≠ 13))) (h3 : w'.r = w.r + ind (decide (op = 2) && decide (r.errno = 0))) (h4 : w'.w = w.w + ind (decide (op = 3) && decide (r.errno = 0))) (h5 : w'.e = 0) (h6 : w'.f = 0) :
    CInv (i + 1) t'.taken w' := by
  have i1 := ind01 (decide (op = 1) && r.hit)
  have i2 := ind01 (decide (op = 1) && !r.hit && decide (r.errno ≠ 13))
  have i3 := ind01 (decide (op = 2) && decide (r.errno = 0))
  have i4 := ind01 (decide (op = 3) && decide (r.errno = 0))
  obtain ⟨a1, a2, a3, a4, a5, a6⟩ := h.sm
  have hc := h.c
  have hw := h.w
  obtain ⟨b1, b2, b3, b4, b5, b6, -⟩ := hf
  have c1 : t.c.h = w.h := by rw [hc]
  have c2 : t.c.m = w.m := by rw [hc]
  have c4 : t.c.r = w.r := by rw [hc]
  have c5 : t.c.w = w.w := by rw [hc]
  have c6 : t.c.f = 0 := by rw [hc]
  refine ⟨taken_inv hi, ht, hj, rfl, by show t'.ids = _; rw [hid]; rfl, hpg, hfs, ⟨?_, ?_, ?_, ?_, ?_, ?_⟩, ?_, h5, h6, ?_⟩
  · show 0 ≤ t'.c.h ∧ t'.c.h ≤ ((i + 1 : Nat) : Int); omega
  · show 0 ≤ t'.c.m ∧ t'.c.m ≤ ((i + 1 : Nat) : Int); omega
  · show 0 ≤ t'.c.e ∧ t'.c.e ≤ ((i + 1 : Nat) : Int); omega
  · show 0 ≤ t'.c.r ∧ t'.c.r ≤ ((i + 1 : Nat) : Int); omega
  · show 0 ≤ t'.c.w ∧ t'.c.w ≤ ((i + 1 : Nat) : Int); omega
  · show 0 ≤ t'.c.f ∧ t'.c.f ≤ ((i + 1 : Nat) : Int); omega
  · show t'.c = ⟨w'.h, w'.m, t'.c.e, w'.r, w'.w, 0⟩
    rw [h1, h2, h3, h4, ← c1, ← c2, ← c4, ← c5, ← b1, ← b2, ← b4, ← b5]
    have : t'.c.f = 0 := by omega
    generalize t'.c = z at *
    obtain ⟨z1, z2, z3, z4, z5, z6⟩ := z
    simp only at this
    rw [this]
  · show t'.c.e ≤ w'.m; omega
theorem seg_in {l vs : List Value} {o m : Nat} (h : seg? l o m = some vs) (p k : Nat) (hp : p + k ≤ m) : seg? l (o + p) k = some ((vs.drop p).take k) := by
  obtain ⟨h1, h2⟩ := seg?_eq _ _ _ h
  rw [seg?_of _ _ _ (by omega), h2, List.drop_take, List.drop_drop, List.take_take, Nat.min_eq_left (by omega)]
theorem z16b (bz : Nat) : repL 16 [Value.int .u8 0] = u8s z16' := rfl
theorem TenantCounts_spec (qs : List QD) (hqs : ∀ o ∈ qs, QD.Ok o) (a : Option Addr) (c : Nat) (ro : HL) (hro : RoSl 5 (qs.flatMap QD.l) a qs.length ro) :
    Ctr Try.prog 4 [.slice a qs.length c] [] (ro ++ qros qs) (fun v L' => v = .bool true ∧ L' = []) := by
  have hB := VBegin_spec 2 1 (by decide) (by decide) (by decide) (by decide) 4 (by decide) (by decide)
  have hL := VLives_spec
  obtain ⟨zs, hz1, hz2, hz3⟩ : ∃ zs, repL 16 [Value.int .u8 0] = u8s zs ∧ u8ok zs ∧ zs.length = 16 := ⟨z16', rep16', zu8, rfl⟩
  refine Ctr.enter (n := 175) [.tmp 2] [(0, _)] Try.func4 rfl rfl rfl (lb rfl) Try.call4 ⟨rfl, trivial⟩ ?_
  intro cx fin fin0
  refine aG ?_
  repeat (first | refine gx ?_ | refine gN fun _ => ?_ | refine gB fun _ => ?_ | fail)
  refine aC (o := hB) (h := ?_)
  rintro _ _ ⟨b, bt, bp, Hw, Ht, Hp, rfl, rfl, l, D, rfl, hdoc, ht, hp⟩
  refine aG ?_
  repeat (first | refine gx ?_ | refine gN fun _ => ?_ | refine gB fun _ => ?_ | fail)
  refine spl2 rfl ?_
  refine aG ?_
  refine aBu (ps := []) ?_
  repeat (first | refine gx ?_ | refine gN fun _ => ?_ | refine gB fun _ => ?_ | fail)
  rename_i b4
  refine aLp (fun k ρ1 L1 => ∃ (i : Nat) (t : Tn) (w1 w2 w4 w5 : Int) (Ht Hp : HL), i ≤ 12 ∧ CInv i t ⟨w1, w2, 0, w4, w5, 0⟩ ∧ TAt 1 t bt bp Ht ∧ PtAt t.p bp Hp ∧ k = 12 - i ∧ ρ1 = [(5, .int .i64 (i : Int)), (0, .slice a qs.length c), (3, .pointer (some ⟨b, 0, none⟩)), (4, .pointer (some ⟨b4, 0, none⟩))] ∧ L1 = [[(b4, Obj.cells (List.toArray [.int .u64 w1, .int .u64 w2, .int .u64 0, .int .u64 w4, .int .u64 w5, .int .u64 0]) 38 (0, 0))], Ht, Hp, [(b, Obj.cells (List.toArray (.pointer (some ⟨bt, 0, none⟩) :: .pointer (some ⟨bp, 0, none⟩) :: (l ++ [.int .i64 0]))) 55 (0, 0))]]) (o := ⟨0, Tn.new 2 4, 0, 0, 0, 0, Ht, Hp, by decide, ⟨new_inv 1 2 (by decide) (by decide) 4, rfl, rfl, rfl, rfl, rfl, rfl, ⟨by decide, by decide, by decide, by decide, by decide, by decide⟩, rfl, by decide⟩, ht, hp, rfl, rfl, rfl⟩) (h := ?_)
  clear ht hp
  rintro k ρ1 L1 ⟨i, t, w1, w2, w4, w5, Ht, Hp, hi12, hcv, ht, hp, rfl, rfl, rfl⟩
  refine aG ?_
  by_cases hc : ((i : Int) < (qs.length : Int)) ∧ (i : Int) < 12
  case' neg =>
    have hC := Count_spec 1 t bt bp Ht ht
    have hce := hcv.c
    have hwe := hcv.w
    generalize t.c = tc at *
    obtain ⟨t1, t2, t3, t4, t5, t6⟩ := tc
    simp only [C6.mk.injEq, true_and] at hce
    obtain ⟨rfl, rfl, rfl, rfl, rfl⟩ := hce
    obtain ⟨-, -, hle⟩ := hwe
    simp only at hle
    rcases (show ¬ ((i : Int) < (qs.length : Int)) ∨ (((i : Int) < (qs.length : Int)) ∧ ¬ (i : Int) < 12) by omega) with hx | ⟨hx1, hx2⟩
    all_goals
      repeat (first | refine gx ?_ | refine gN fun _ => ?_ | refine gB fun _ => ?_ | fail)
      refine aC (o := hC) (h := ?_) (hro := RoIn.own 1 rfl)
      rintro _ _ ⟨rfl, rfl⟩
      refine aG ?_
      repeat (first | refine gx ?_ | refine gN fun _ => ?_ | refine gB fun _ => ?_ | fail)
      refine aV (eqC ⟨t1, t2, t3, t4, t5, 0⟩ rfl rfl) ?_
      repeat (first | refine gh hle ?_ | refine gN fun _ => ?_ | refine gB fun _ => ?_ | fail)
      refine aC (o := hL) (h := ?_) (hro := RoIn.nil)
      rintro _ _ ⟨rfl, rfl⟩
      refine aG ?_
      repeat (first | refine gx ?_ | refine gN fun _ => ?_ | refine gB fun _ => ?_ | fail)
      refine W.ret (fin _ _ (FinOk.first 0 (.tmp rfl .nil) rfl ?_))
      exact ⟨rfl, rfl⟩
  obtain ⟨hc1, hc2⟩ := hc
  have hil : i < qs.length := by omega
  obtain ⟨bx, ox, lx, ex, frx, rfl, rfl, hseg, -⟩ := RoSl.at (f := QD.l) (fun _ => rfl) hro hil
  have hO := hqs _ (List.getElem_mem hil)
  have hmem : ∀ q ∈ qs[i].b.ro, q ∈ qros qs := fun q hq => List.mem_flatMap.2 ⟨_, List.getElem_mem hil, hq⟩
  generalize qs[i] = o at hseg hO hmem
  have hG := Good_spec o.q hO.inn 4 (by decide) o.b.a o.b.cap o.b.ro hO.ro
  have hgc := gq_check o.q 4 (by decide)
  have hgo := gq_ok o.q 4 (by decide) hO.u8
  generalize gq o.q 4 = q at *
  have hS := fun a' c' H' hr => Submit_spec 1 t hcv.inv (by rw [hcv.ids]; omega) bt bp Ht ht Hp hp q hgo.u8 hgo.dl hgo.off ⟨by have := hgo.op; omega, by have := hgo.op; omega⟩ (fun h => check_ok h hgo.u8) a' c' H' hr (i : Int)
  have hrb := req_begin hcv.inv hcv.todo hcv.js hcv.out (hcv.sm.up (by omega)) (by rw [hcv.pg]; exact hgc) hgo.u8 (i : Int)
  have hsi := submit_inv hcv.inv (q := q) (fun h => check_ok h hgo.u8) (i : Int)
  have hss := submit_same 1 t q (i : Int)
  have hsd := submit_ids (d := 1) (t := t) (q := q) (by rw [hcv.pg]; exact hgc) (by rw [hcv.js]; decide) (i : Int)
  rw [hcv.ids] at hrb hsd
  rw [hcv.fs] at hrb hss
  rw [hcv.pg] at hss
  generalize t.submit 1 q (i : Int) = s1 at *
  obtain ⟨t1, id1, e1⟩ := s1
  obtain ⟨hre, hrb⟩ := hrb
  simp only [Prod.mk.injEq] at hre hrb hsi hss hsd hS
  obtain ⟨rfl, rfl⟩ := hre
  obtain ⟨qo, qp, qf, ql, qd⟩ := q
  simp only [Rq.v] at hS hG
  repeat (first | refine gx ?_ | refine gN fun _ => ?_ | refine gB fun _ => ?_ | fail)
  refine aV (OpVal.ixSl tab_ok rfl rfl rfl rfl rfl hil) ?_
  refine aV (OpVal.loadN ty_41.1 ty_41.2 rfl (show At _ _ bx (.cells lx.toArray ex frx) from .inr (by simp)) hseg) ?_
  refine aC (o := hG) (h := ?_) (hro := RoIn.all (fun q hq => by simp [hmem q hq]))
  rintro _ _ ⟨a5, c5, H5, rfl, rfl, h5⟩
  refine aG ?_
  repeat (first | refine gx ?_ | refine gN fun _ => ?_ | refine gB fun _ => ?_ | fail)
  rename_i b6
  refine W.drawH tab_ok 12 [.b false, .b false, .b false, .b false, .b false, .b false, .b true, .b false, .b false, .b false, .b false, .b false] [3,4] follows (by decide +kernel) (by decide +kernel) rfl (by decide) rfl ?_
  intro _
  refine dG ?_
  repeat (first | refine dL ?_ | refine dS ?_ | (first | refine dGo ?_ | refine dSk ?_ | refine dUn ?_ | fail) | (first | refine dPT ?_ | refine dPF ?_ | fail) | refine dV (OpVal.add rfl rfl (i64_in _ (by omega))) ?_ | refine dV (OpVal.sub rfl rfl (i64_in _ (by omega))) ?_ | refine dV (OpVal.neBool tab_ok rfl rfl rfl) ?_ | refine dV (OpVal.eqBool tab_ok rfl rfl rfl) ?_ | refine dV (OpVal.eqNil tab_ok rfl rfl rfl) ?_ | refine dV (OpVal.neNil tab_ok rfl rfl rfl) ?_ | fail)
  refine dC (o := hS a5 c5 H5 h5) (h := ?_) (hro := RoIn.all (fun q hq => by simp [hq]))
  rintro _ _ ⟨Ht1, Hp1, rfl, rfl, ht1, hp1⟩
  refine dG ?_
  refine WD.nil (W.dropNil (aG ?_))
  repeat (first | refine gx ?_ | refine gN fun _ => ?_ | refine gB fun _ => ?_ | fail)
  refine aLp (fun k ρ2 L2 => ∃ (j : Nat) (t' : Tn) (Ht' Hp' : HL), TInv 1 t' ∧ (Ended t.c ⟨qo, qp, qf, ql, qd⟩ t' ∨ Bz t.c ⟨qo, qp, qf, ql, qd⟩ t') ∧ t'.m.todo.length + j ≤ 5 ∧ t'.p.fs.length = 2 ∧ t'.pages = 4 ∧ t'.ids = (i : Int) + 1 ∧ TAt 1 t' bt bp Ht' ∧ PtAt t'.p bp Hp' ∧ k = t'.m.todo.length ∧ ρ2 = [(9, .int .i64 (j : Int)), (5, .int .i64 (i : Int)), (0, .slice (some ⟨bx, ox, none⟩) qs.length c), (3, .pointer (some ⟨b, 0, none⟩)), (4, .pointer (some ⟨b4, 0, none⟩)), (6, .pointer (some ⟨b6, 0, none⟩))] ∧ L2 = [Ht', Hp', [(b6, Obj.cells (List.toArray [.int .i64 qo, .int .i64 qp, .int .i64 qf, .int .i64 ql, .slice a5 qd.length c5]) 41 (0, 0))], [(b4, Obj.cells (List.toArray [.int .u64 w1, .int .u64 w2, .int .u64 0, .int .u64 w4, .int .u64 w5, .int .u64 0]) 38 (0, 0))], [(b, Obj.cells (List.toArray (.pointer (some ⟨bt, 0, none⟩) :: .pointer (some ⟨bp, 0, none⟩) :: (l ++ [.int .i64 0]))) 55 (0, 0))]]) (o := ⟨0, t1, Ht1, Hp1, hsi, hrb.imp id (·.1), ?_, hss.1, hss.2, hsd, ht1, hp1, rfl, rfl, rfl⟩) (h := ?_)
  · rcases hrb with h | ⟨-, h | h⟩
    · rw [h.1]; decide
    · omega
    · omega
  rintro k ρ2 L2 ⟨j, t', Ht', Hp', hti, hst, hlen, hfs, hpg, hid, ht', hp', rfl, rfl, rfl⟩
  obtain ⟨bm, rest, Hm, hin, hm, hsubm⟩ := ht'.mach
  have hU := Busy_spec _ bm bp Hm hm
  refine aG ?_
  repeat (first | refine gx ?_ | refine gN fun _ => ?_ | refine gB fun _ => ?_ | fail)
  refine aV (OpVal.load tab_ok rfl (at_in 0 rfl hin) rfl) ?_
  repeat (first | refine gx ?_ | refine gN fun _ => ?_ | refine gB fun _ => ?_ | fail)
  refine aC (o := hU) (h := ?_) (hro := (fun q hq => RoIn.own 0 rfl q (hsubm q hq)))
  rintro _ _ ⟨rfl, rfl⟩
  refine aG ?_
  rcases Classical.em (t'.m.todo = []) with h0 | h0
  case' inr =>
    have hz : 0 < ((t'.m.todo.length : Nat) : Int) := by have := List.length_pos_iff.2 h0; omega
    have hbz : Bz t.c ⟨qo, qp, qf, ql, qd⟩ t' := hst.elim (fun h => absurd h.1 h0) id
    have hE := fun (bz : Nat) (cb : Nat) => Over_spec 1 t' hti (by rw [hid]; omega) h0 bt bp Ht' ht' Hp' hp' 0 zs (fun _ => ⟨hz2, hz3⟩) (some ⟨bz, 0, none⟩) cb _ (own_roT bz zs 5) (i : Int)
    rw [hz3] at hE
    have hos := over_same t' 0 zs (i : Int)
    have hoi := over_ids t' 0 zs (i : Int)
    have hov := over_inv hti h0 0 (bs := zs) (fun _ => ⟨hz2, hz3⟩) (i : Int)
    have hrs := req_step hbz (hcv.sm.up (by omega)) zs (i : Int)
    rw [hfs, hpg] at hos
    rw [hid] at hoi
    generalize t'.over 0 zs (i : Int) = t2 at *
    repeat (first | refine gh hz ?_ | refine gN fun _ => ?_ | refine gB fun _ => ?_ | fail)
    refine W.drawH tab_ok 7 [.b false, .b false, .b false, .b false, .b true, .b false, .b true] [0,1] follows (by decide +kernel) (by decide +kernel) rfl (by decide) rfl ?_
    intro _
    refine dG ?_
    repeat (first | refine dL ?_ | refine dS ?_ | (first | refine dGo ?_ | refine dSk ?_ | refine dUn ?_ | fail) | (first | refine dPT ?_ | refine dPF ?_ | fail) | refine dV (OpVal.add rfl rfl (i64_in _ (by omega))) ?_ | refine dV (OpVal.sub rfl rfl (i64_in _ (by omega))) ?_ | refine dV (OpVal.neBool tab_ok rfl rfl rfl) ?_ | refine dV (OpVal.eqBool tab_ok rfl rfl rfl) ?_ | refine dV (OpVal.eqNil tab_ok rfl rfl rfl) ?_ | refine dV (OpVal.neNil tab_ok rfl rfl rfl) ?_ | fail)
    refine dW (NewOf.mks (bytes := 1) (len := 16) (cap := 16) tab_ok rfl rfl rfl rfl rfl rfl rfl rfl rfl (Nat.le_refl _) (by decide) (by decide)) ?_
    intro bz
    refine dG ?_
    rw [hz1]
    refine dC (o := hE bz 16) (h := ?_) (hro := RoIn.own 0 rfl)
    rintro _ _ ⟨Ht2, Hp2, rfl, ht2, hp2⟩
    refine dG ?_
    refine WD.nil (W.dropNil (aG ?_))
    repeat (first | refine gx ?_ | refine gN fun _ => ?_ | refine gB fun _ => ?_ | fail)
    refine aR (o := ⟨t2.m.todo.length, hrs.2, j + 1, t2, Ht2, Hp2, hov, hrs.1, by have := hrs.2; omega, hos.1, hos.2, hoi, ht2, hp2, rfl, rfl, rfl⟩)
  have hz : ¬ 0 < ((t'.m.todo.length : Nat) : Int) := by rw [h0]; decide
  obtain ⟨-, hjs, r, hout, hf⟩ : Ended t.c ⟨qo, qp, qf, ql, qd⟩ t' := hst.elim id (fun h => absurd h0 h.todo)
  repeat (first | refine gh hz ?_ | refine gN fun _ => ?_ | refine gB fun _ => ?_ | fail)
  refine aC (o := Out_spec 1 t' bt bp Ht' ht') (h := ?_)
  rintro _ _ ⟨los, ao, co, Ht3, Ho, Do, rfl, rfl, ht3, hlo, hro3, hsub3, hll⟩
  refine aG ?_
  rw [hout] at hlo
  obtain ⟨o1, rfl, rfl⟩ := los_one hlo
  repeat (first | refine gx ?_ | refine gN fun _ => ?_ | refine gB fun _ => ?_ | fail)
  obtain ⟨bx', ox', lx', ex', frx', rfl, rfl, hsg', hld'⟩ := RoSl.at (f := Ro.l) (m := 11) (fun _ => rfl) hro3 (show 0 < [o1].length from lb rfl)
  have g1 : lx'[ox' + 0 * 11 + 1]? = some (.int .i64 o1.r.errno) := hld' 1 (by decide)
  have g2 : lx'[ox' + 0 * 11 + 2]? = some (.bool o1.r.hit) := hld' 2 (by decide)
  have hwb := hcv.sm
  have hwc := hcv.c
  rw [hwc] at hwb
  obtain ⟨v1, v2, v3, v4, v5, v6⟩ := hwb
  simp only at v1 v2 v4 v5
  have hnx := fun w' => cnext (w' := w') hcv hti hf h0 hjs hid hpg hfs
  generalize o1.r.errno = er at *
  generalize o1.r.hit = hi at *
  have hop := hgo.op
  simp only at hop
  rcases (show (qo = 1 ∧ hi = true) ∨ (qo = 1 ∧ hi = false ∧ er = 13) ∨ (qo = 1 ∧ hi = false ∧ er ≠ 13) ∨ (qo = 2 ∧ er = 0) ∨ (qo = 2 ∧ er ≠ 0) ∨ (qo = 3 ∧ er = 0) ∨ (qo = 3 ∧ er ≠ 0) ∨ qo = 8 ∨ (qo ≠ 1 ∧ qo ≠ 2 ∧ qo ≠ 3 ∧ qo ≠ 8) by cases hi <;> simp <;> omega) with ⟨k1, k2⟩ | ⟨k1, k2, k3⟩ | ⟨k1, k2, k3⟩ | ⟨k1, k2⟩ | ⟨k1, k2⟩ | ⟨k1, k2⟩ | ⟨k1, k2⟩ | k1 | ⟨k1, k2, k3, k4⟩
  · subst k1 k2
    repeat (first | refine gx ?_ | refine aV (OpVal.ixSl (j := 0) tab_ok rfl rfl rfl rfl rfl (lb rfl)) ?_ | refine aV (OpVal.load tab_ok rfl (at_own 1 rfl) g1) ?_ | refine aV (OpVal.load tab_ok rfl (at_own 1 rfl) g2) ?_ | refine aV (OpVal.add rfl rfl (u64_in _ (by omega))) ?_ | fail)
    refine W.draw follows (by decide +kernel) (zG ?_)
    repeat (first | refine zL ?_ | (first | refine zGo ?_ | refine zSk ?_ | refine zUn ?_ | fail) | (first | refine zPT ?_ | refine zPF ?_ | fail) | refine zV (OpVal.add rfl rfl (i64_in _ (by omega))) ?_ | refine zV (OpVal.sub rfl rfl (i64_in _ (by omega))) ?_ | refine zV (OpVal.neBool tab_ok rfl rfl rfl) ?_ | refine zV (OpVal.eqBool tab_ok rfl rfl rfl) ?_ | refine zV (OpVal.eqNil tab_ok rfl rfl rfl) ?_ | refine zV (OpVal.neNil tab_ok rfl rfl rfl) ?_ | fail)
    refine WZ.nil (aG ?_)
    repeat (first | refine gx ?_ | refine gN fun _ => ?_ | refine gB fun _ => ?_ | fail)
    refine aR (o := ⟨12 - (i + 1), by omega, i + 1, t'.taken, w1 + 1, w2, w4, w5, Ht3, Hp', by omega, hnx ⟨w1 + 1, w2, 0, w4, w5, 0⟩ (by simp [ind]) (by simp [ind]) (by simp [ind]) (by simp [ind]) rfl rfl, ht3, hp', rfl, rfl, rfl⟩)
  · subst k1 k2 k3
    repeat (first | refine gx ?_ | refine aV (OpVal.ixSl (j := 0) tab_ok rfl rfl rfl rfl rfl (lb rfl)) ?_ | refine aV (OpVal.load tab_ok rfl (at_own 1 rfl) g1) ?_ | refine aV (OpVal.load tab_ok rfl (at_own 1 rfl) g2) ?_ | refine aV (OpVal.add rfl rfl (u64_in _ (by omega))) ?_ | fail)
    refine W.draw follows (by decide +kernel) (zG ?_)
    repeat (first | refine zL ?_ | (first | refine zGo ?_ | refine zSk ?_ | refine zUn ?_ | fail) | (first | refine zPT ?_ | refine zPF ?_ | fail) | refine zV (OpVal.add rfl rfl (i64_in _ (by omega))) ?_ | refine zV (OpVal.sub rfl rfl (i64_in _ (by omega))) ?_ | refine zV (OpVal.neBool tab_ok rfl rfl rfl) ?_ | refine zV (OpVal.eqBool tab_ok rfl rfl rfl) ?_ | refine zV (OpVal.eqNil tab_ok rfl rfl rfl) ?_ | refine zV (OpVal.neNil tab_ok rfl rfl rfl) ?_ | fail)
    refine WZ.nil (aG ?_)
    repeat (first | refine gx ?_ | refine gN fun _ => ?_ | refine gB fun _ => ?_ | fail)
    refine aR (o := ⟨12 - (i + 1), by omega, i + 1, t'.taken, w1, w2, w4, w5, Ht3, Hp', by omega, hnx ⟨w1, w2, 0, w4, w5, 0⟩ (by simp [ind]) (by simp [ind]) (by simp [ind]) (by simp [ind]) rfl rfl, ht3, hp', rfl, rfl, rfl⟩)
  · subst k1 k2
    repeat (first | refine gh k3 ?_ | refine aV (OpVal.ixSl (j := 0) tab_ok rfl rfl rfl rfl rfl (lb rfl)) ?_ | refine aV (OpVal.load tab_ok rfl (at_own 1 rfl) g1) ?_ | refine aV (OpVal.load tab_ok rfl (at_own 1 rfl) g2) ?_ | refine aV (OpVal.add rfl rfl (u64_in _ (by omega))) ?_ | fail)
    refine W.draw follows (by decide +kernel) (zG ?_)
    repeat (first | refine zL ?_ | (first | refine zGo ?_ | refine zSk ?_ | refine zUn ?_ | fail) | (first | refine zPT ?_ | refine zPF ?_ | fail) | refine zV (OpVal.add rfl rfl (i64_in _ (by omega))) ?_ | refine zV (OpVal.sub rfl rfl (i64_in _ (by omega))) ?_ | refine zV (OpVal.neBool tab_ok rfl rfl rfl) ?_ | refine zV (OpVal.eqBool tab_ok rfl rfl rfl) ?_ | refine zV (OpVal.eqNil tab_ok rfl rfl rfl) ?_ | refine zV (OpVal.neNil tab_ok rfl rfl rfl) ?_ | fail)
    refine WZ.nil (aG ?_)
    repeat (first | refine gx ?_ | refine gN fun _ => ?_ | refine gB fun _ => ?_ | fail)
    refine aR (o := ⟨12 - (i + 1), by omega, i + 1, t'.taken, w1, w2 + 1, w4, w5, Ht3, Hp', by omega, hnx ⟨w1, w2 + 1, 0, w4, w5, 0⟩ (by simp [ind, k3]) (by simp [ind, k3]) (by simp [ind, k3]) (by simp [ind, k3]) rfl rfl, ht3, hp', rfl, rfl, rfl⟩)
  · subst k1 k2
    repeat (first | refine gx ?_ | refine aV (OpVal.ixSl (j := 0) tab_ok rfl rfl rfl rfl rfl (lb rfl)) ?_ | refine aV (OpVal.load tab_ok rfl (at_own 1 rfl) g1) ?_ | refine aV (OpVal.load tab_ok rfl (at_own 1 rfl) g2) ?_ | refine aV (OpVal.add rfl rfl (u64_in _ (by omega))) ?_ | fail)
    refine W.draw follows (by decide +kernel) (zG ?_)
    repeat (first | refine zL ?_ | (first | refine zGo ?_ | refine zSk ?_ | refine zUn ?_ | fail) | (first | refine zPT ?_ | refine zPF ?_ | fail) | refine zV (OpVal.add rfl rfl (i64_in _ (by omega))) ?_ | refine zV (OpVal.sub rfl rfl (i64_in _ (by omega))) ?_ | refine zV (OpVal.neBool tab_ok rfl rfl rfl) ?_ | refine zV (OpVal.eqBool tab_ok rfl rfl rfl) ?_ | refine zV (OpVal.eqNil tab_ok rfl rfl rfl) ?_ | refine zV (OpVal.neNil tab_ok rfl rfl rfl) ?_ | fail)
    refine WZ.nil (aG ?_)
    repeat (first | refine gx ?_ | refine gN fun _ => ?_ | refine gB fun _ => ?_ | fail)
    refine aR (o := ⟨12 - (i + 1), by omega, i + 1, t'.taken, w1, w2, w4 + 1, w5, Ht3, Hp', by omega, hnx ⟨w1, w2, 0, w4 + 1, w5, 0⟩ (by simp [ind]) (by simp [ind]) (by simp [ind]) (by simp [ind]) rfl rfl, ht3, hp', rfl, rfl, rfl⟩)
  · subst k1
    repeat (first | refine gh k2 ?_ | refine aV (OpVal.ixSl (j := 0) tab_ok rfl rfl rfl rfl rfl (lb rfl)) ?_ | refine aV (OpVal.load tab_ok rfl (at_own 1 rfl) g1) ?_ | refine aV (OpVal.load tab_ok rfl (at_own 1 rfl) g2) ?_ | refine aV (OpVal.add rfl rfl (u64_in _ (by omega))) ?_ | fail)
    refine W.draw follows (by decide +kernel) (zG ?_)
    repeat (first | refine zL ?_ | (first | refine zGo ?_ | refine zSk ?_ | refine zUn ?_ | fail) | (first | refine zPT ?_ | refine zPF ?_ | fail) | refine zV (OpVal.add rfl rfl (i64_in _ (by omega))) ?_ | refine zV (OpVal.sub rfl rfl (i64_in _ (by omega))) ?_ | refine zV (OpVal.neBool tab_ok rfl rfl rfl) ?_ | refine zV (OpVal.eqBool tab_ok rfl rfl rfl) ?_ | refine zV (OpVal.eqNil tab_ok rfl rfl rfl) ?_ | refine zV (OpVal.neNil tab_ok rfl rfl rfl) ?_ | fail)
    refine WZ.nil (aG ?_)
    repeat (first | refine gx ?_ | refine gN fun _ => ?_ | refine gB fun _ => ?_ | fail)
    refine aR (o := ⟨12 - (i + 1), by omega, i + 1, t'.taken, w1, w2, w4, w5, Ht3, Hp', by omega, hnx ⟨w1, w2, 0, w4, w5, 0⟩ (by simp [ind, k2]) (by simp [ind, k2]) (by simp [ind, k2]) (by simp [ind, k2]) rfl rfl, ht3, hp', rfl, rfl, rfl⟩)
  · subst k1 k2
    repeat (first | refine gx ?_ | refine aV (OpVal.ixSl (j := 0) tab_ok rfl rfl rfl rfl rfl (lb rfl)) ?_ | refine aV (OpVal.load tab_ok rfl (at_own 1 rfl) g1) ?_ | refine aV (OpVal.load tab_ok rfl (at_own 1 rfl) g2) ?_ | refine aV (OpVal.add rfl rfl (u64_in _ (by omega))) ?_ | fail)
    refine W.draw follows (by decide +kernel) (zG ?_)
    repeat (first | refine zL ?_ | (first | refine zGo ?_ | refine zSk ?_ | refine zUn ?_ | fail) | (first | refine zPT ?_ | refine zPF ?_ | fail) | refine zV (OpVal.add rfl rfl (i64_in _ (by omega))) ?_ | refine zV (OpVal.sub rfl rfl (i64_in _ (by omega))) ?_ | refine zV (OpVal.neBool tab_ok rfl rfl rfl) ?_ | refine zV (OpVal.eqBool tab_ok rfl rfl rfl) ?_ | refine zV (OpVal.eqNil tab_ok rfl rfl rfl) ?_ | refine zV (OpVal.neNil tab_ok rfl rfl rfl) ?_ | fail)
    refine WZ.nil (aG ?_)
    repeat (first | refine gx ?_ | refine gN fun _ => ?_ | refine gB fun _ => ?_ | fail)
    refine aR (o := ⟨12 - (i + 1), by omega, i + 1, t'.taken, w1, w2, w4, w5 + 1, Ht3, Hp', by omega, hnx ⟨w1, w2, 0, w4, w5 + 1, 0⟩ (by simp [ind]) (by simp [ind]) (by simp [ind]) (by simp [ind]) rfl rfl, ht3, hp', rfl, rfl, rfl⟩)
  · subst k1
    repeat (first | refine gh k2 ?_ | refine aV (OpVal.ixSl (j := 0) tab_ok rfl rfl rfl rfl rfl (lb rfl)) ?_ | refine aV (OpVal.load tab_ok rfl (at_own 1 rfl) g1) ?_ | refine aV (OpVal.load tab_ok rfl (at_own 1 rfl) g2) ?_ | refine aV (OpVal.add rfl rfl (u64_in _ (by omega))) ?_ | fail)
    refine W.draw follows (by decide +kernel) (zG ?_)
    repeat (first | refine zL ?_ | (first | refine zGo ?_ | refine zSk ?_ | refine zUn ?_ | fail) | (first | refine zPT ?_ | refine zPF ?_ | fail) | refine zV (OpVal.add rfl rfl (i64_in _ (by omega))) ?_ | refine zV (OpVal.sub rfl rfl (i64_in _ (by omega))) ?_ | refine zV (OpVal.neBool tab_ok rfl rfl rfl) ?_ | refine zV (OpVal.eqBool tab_ok rfl rfl rfl) ?_ | refine zV (OpVal.eqNil tab_ok rfl rfl rfl) ?_ | refine zV (OpVal.neNil tab_ok rfl rfl rfl) ?_ | fail)
    refine WZ.nil (aG ?_)
    repeat (first | refine gx ?_ | refine gN fun _ => ?_ | refine gB fun _ => ?_ | fail)
    refine aR (o := ⟨12 - (i + 1), by omega, i + 1, t'.taken, w1, w2, w4, w5, Ht3, Hp', by omega, hnx ⟨w1, w2, 0, w4, w5, 0⟩ (by simp [ind, k2]) (by simp [ind, k2]) (by simp [ind, k2]) (by simp [ind, k2]) rfl rfl, ht3, hp', rfl, rfl, rfl⟩)
  · subst k1
    repeat (first | refine gx ?_ | refine aV (OpVal.ixSl (j := 0) tab_ok rfl rfl rfl rfl rfl (lb rfl)) ?_ | refine aV (OpVal.load tab_ok rfl (at_own 1 rfl) g1) ?_ | refine aV (OpVal.load tab_ok rfl (at_own 1 rfl) g2) ?_ | refine aV (OpVal.add rfl rfl (u64_in _ (by omega))) ?_ | fail)
    have hrc := hf.st rfl
    have hsc := seg_in hsg' 5 6 (by decide)
    have hCt := Count_spec 1 t'.taken bt bp Ht3 ht3
    refine W.draw follows (by decide +kernel) (zG ?_)
    repeat (first | refine zL ?_ | (first | refine zGo ?_ | refine zSk ?_ | refine zUn ?_ | fail) | (first | refine zPT ?_ | refine zPF ?_ | fail) | refine zV (OpVal.add rfl rfl (i64_in _ (by omega))) ?_ | refine zV (OpVal.sub rfl rfl (i64_in _ (by omega))) ?_ | refine zV (OpVal.neBool tab_ok rfl rfl rfl) ?_ | refine zV (OpVal.eqBool tab_ok rfl rfl rfl) ?_ | refine zV (OpVal.eqNil tab_ok rfl rfl rfl) ?_ | refine zV (OpVal.neNil tab_ok rfl rfl rfl) ?_ | fail)
    refine zV (OpVal.ixSl (j := 0) tab_ok rfl rfl rfl rfl rfl (lb rfl)) ?_
    repeat (first | refine zL ?_ | (first | refine zGo ?_ | refine zSk ?_ | refine zUn ?_ | fail) | (first | refine zPT ?_ | refine zPF ?_ | fail) | refine zV (OpVal.add rfl rfl (i64_in _ (by omega))) ?_ | refine zV (OpVal.sub rfl rfl (i64_in _ (by omega))) ?_ | refine zV (OpVal.neBool tab_ok rfl rfl rfl) ?_ | refine zV (OpVal.eqBool tab_ok rfl rfl rfl) ?_ | refine zV (OpVal.eqNil tab_ok rfl rfl rfl) ?_ | refine zV (OpVal.neNil tab_ok rfl rfl rfl) ?_ | fail)
    refine zV (OpVal.loadN ty_38.1 ty_38.2 rfl (at_own 1 rfl) hsc) ?_
    repeat (first | refine zL ?_ | (first | refine zGo ?_ | refine zSk ?_ | refine zUn ?_ | fail) | (first | refine zPT ?_ | refine zPF ?_ | fail) | refine zV (OpVal.add rfl rfl (i64_in _ (by omega))) ?_ | refine zV (OpVal.sub rfl rfl (i64_in _ (by omega))) ?_ | refine zV (OpVal.neBool tab_ok rfl rfl rfl) ?_ | refine zV (OpVal.eqBool tab_ok rfl rfl rfl) ?_ | refine zV (OpVal.eqNil tab_ok rfl rfl rfl) ?_ | refine zV (OpVal.neNil tab_ok rfl rfl rfl) ?_ | fail)
    refine zC (o := hCt) (h := ?_) (hro := RoIn.own 0 rfl)
    repeat (first | refine zL ?_ | (first | refine zGo ?_ | refine zSk ?_ | refine zUn ?_ | fail) | (first | refine zPT ?_ | refine zPF ?_ | fail) | refine zV (OpVal.add rfl rfl (i64_in _ (by omega))) ?_ | refine zV (OpVal.sub rfl rfl (i64_in _ (by omega))) ?_ | refine zV (OpVal.neBool tab_ok rfl rfl rfl) ?_ | refine zV (OpVal.eqBool tab_ok rfl rfl rfl) ?_ | refine zV (OpVal.eqNil tab_ok rfl rfl rfl) ?_ | refine zV (OpVal.neNil tab_ok rfl rfl rfl) ?_ | fail)
    refine zV (neC t'.c (by rw [← hrc]; rfl) rfl) ?_
    repeat (first | refine zL ?_ | (first | refine zGo ?_ | refine zSk ?_ | refine zUn ?_ | fail) | (first | refine zPT ?_ | refine zPF ?_ | fail) | refine zV (OpVal.add rfl rfl (i64_in _ (by omega))) ?_ | refine zV (OpVal.sub rfl rfl (i64_in _ (by omega))) ?_ | refine zV (OpVal.neBool tab_ok rfl rfl rfl) ?_ | refine zV (OpVal.eqBool tab_ok rfl rfl rfl) ?_ | refine zV (OpVal.eqNil tab_ok rfl rfl rfl) ?_ | refine zV (OpVal.neNil tab_ok rfl rfl rfl) ?_ | fail)
    refine WZ.nil (aG ?_)
    repeat (first | refine gx ?_ | refine gN fun _ => ?_ | refine gB fun _ => ?_ | fail)
    refine aR (o := ⟨12 - (i + 1), by omega, i + 1, t'.taken, w1, w2, w4, w5, Ht3, Hp', by omega, hnx ⟨w1, w2, 0, w4, w5, 0⟩ (by simp [ind]) (by simp [ind]) (by simp [ind]) (by simp [ind]) rfl rfl, ht3, hp', rfl, rfl, rfl⟩)
  · skip
    repeat (first | refine gh (gc4 k1 k2 k3 k4) ?_ | refine aV (OpVal.ixSl (j := 0) tab_ok rfl rfl rfl rfl rfl (lb rfl)) ?_ | refine aV (OpVal.load tab_ok rfl (at_own 1 rfl) g1) ?_ | refine aV (OpVal.load tab_ok rfl (at_own 1 rfl) g2) ?_ | refine aV (OpVal.add rfl rfl (u64_in _ (by omega))) ?_ | fail)
    refine W.draw follows (by decide +kernel) (zG ?_)
    repeat (first | refine zL ?_ | (first | refine zGo ?_ | refine zSk ?_ | refine zUn ?_ | refine zGo ?_ (hw := by exact gd (gc4 k1 k2 k3 k4)) | refine zSk ?_ (hw := by exact gd (gc4 k1 k2 k3 k4)) | fail) | (first | refine zPT ?_ | refine zPF ?_ | refine zPT ?_ (hb := by exact gd (gc4 k1 k2 k3 k4)) | refine zPF ?_ (hb := by exact gd (gc4 k1 k2 k3 k4)) | fail) | refine zV (OpVal.add rfl rfl (i64_in _ (by omega))) ?_ | refine zV (OpVal.sub rfl rfl (i64_in _ (by omega))) ?_ | refine zV (OpVal.neBool tab_ok rfl rfl rfl) ?_ | refine zV (OpVal.eqBool tab_ok rfl rfl rfl) ?_ | refine zV (OpVal.eqNil tab_ok rfl rfl rfl) ?_ | refine zV (OpVal.neNil tab_ok rfl rfl rfl) ?_ | fail)
    refine WZ.nil (aG ?_)
    repeat (first | refine gh (gc4 k1 k2 k3 k4) ?_ | refine gN fun _ => ?_ | refine gB fun _ => ?_ | fail)
    refine aR (o := ⟨12 - (i + 1), by omega, i + 1, t'.taken, w1, w2, w4, w5, Ht3, Hp', by omega, hnx ⟨w1, w2, 0, w4, w5, 0⟩ (by simp [ind, k1, k2, k3]) (by simp [ind, k1, k2, k3]) (by simp [ind, k1, k2, k3]) (by simp [ind, k1, k2, k3]) rfl rfl, ht3, hp', rfl, rfl, rfl⟩)
end Go.Proofs.Ytfajcpnbhnddbaa
