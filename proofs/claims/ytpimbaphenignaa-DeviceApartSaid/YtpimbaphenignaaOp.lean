/-
  Arguments that came in, opened to plain data: numbers, truth values, texts, slices, structs, one in the other; over any program.
-/
import Derived.Test.YtpimbaphenignaaLw
import Derived.Test.YtpimbaphenignaaSt
import Derived.OpenShut
import Derived.ChangeArms
import Derived.ChangeMaps5
namespace Go.Sl
set_option linter.unusedVariables false
open Go Go.RowKit Go.ChangeShapes Go.WideShapes Go.Deep
theorem wf_i64 {a : Int} (h : (Lit.int .i64 a).wf = true) : i64s a := by
  simp only [Lit.wf, Bool.and_eq_true, decide_eq_true_eq] at h
  exact h
theorem wf_u8 {a : Int} (h : (Lit.int .u8 a).wf = true) : 0 ≤ a ∧ a < 256 := by
  simp only [Lit.wf, Bool.and_eq_true, decide_eq_true_eq] at h
  have : 0 ≤ a ∧ a ≤ 255 := h
  omega
theorem wf_u64 {a : Int} (h : (Lit.int .u64 a).wf = true) : 0 ≤ a ∧ a ≤ 18446744073709551615 := by
  simp only [Lit.wf, Bool.and_eq_true, decide_eq_true_eq] at h
  exact h
theorem wf_u32 {a : Int} (h : (Lit.int .u32 a).wf = true) : 0 ≤ a ∧ a ≤ 4294967295 := by
  simp only [Lit.wf, Bool.and_eq_true, decide_eq_true_eq] at h
  exact h
section
variable {H : Type} {enc : TypeId × Value → H} {P : Program} {w : World} {spare : Nat → Bool} {held : Bool} {X Y : Type}
/-- Whatever stands in cells of the type t reads as an x of X, laid out by f. -/
structure Opens (enc : TypeId × Value → H) (P : Program) (w : World) (spare : Nat → Bool) (held : Bool) (t : TypeId) (m : Nat) (f : X → List Value) (Ok : X → Prop) : Prop where
  len : ∀ x, (f x).length = m
  cells : P.cellsOf t = m
  go : ∀ (fuel : Nat) (cs : List Value) (y : DataW H × List MemPlace), DataW.trod enc P w 0 spare held fuel t cs = some y → ∃ x, cs = f x ∧ Ok x
theorem Opens.int {t : TypeId} {kk : IntKind} {Ok : Int → Prop} (ht : P.underlying t = some (.int kk)) (hc : P.cellsOf t = 1) (hw : ∀ i, (Lit.int kk i).wf = true → Ok i) :
    Opens enc P w spare held t 1 (fun i => [Value.int kk i]) Ok :=
  ⟨fun _ => rfl, hc, fun _ _ _ h => by obtain ⟨i, rfl, _, hwf⟩ := DataW.trod_int ht h; exact ⟨i, rfl, hw i hwf⟩⟩
theorem Opens.bool {t : TypeId} (ht : P.underlying t = some .bool) (hc : P.cellsOf t = 1) : Opens enc P w spare held t 1 (fun b => [Value.bool b]) (fun _ => True) :=
  ⟨fun _ => rfl, hc, fun _ _ _ h => by obtain ⟨i, rfl, _⟩ := DataW.trod_bool ht h; exact ⟨i, rfl, trivial⟩⟩
theorem Opens.str {t : TypeId} (ht : P.underlying t = some .string) (hc : P.cellsOf t = 1) : Opens enc P w spare held t 1 (fun s => [Value.string s]) (fun s => s.size ≤ maxLen) :=
  ⟨fun _ => rfl, hc, fun _ _ _ h => by obtain ⟨s, rfl, _, hs⟩ := DataW.trod_string ht h; exact ⟨s, rfl, hs⟩⟩
theorem Opens.imp {t : TypeId} {m : Nat} {f f' : X → List Value} {Ok Ok' : X → Prop} (h : Opens enc P w spare held t m f Ok) (hf : ∀ x, f x = f' x) (hok : ∀ x, Ok x → Ok' x) : Opens enc P w spare held t m f' Ok' :=
  ⟨fun x => by rw [← hf]; exact h.len x, h.cells, fun fuel cs y hy => by obtain ⟨x, e, o⟩ := h.go fuel cs y hy; exact ⟨x, by rw [← hf]; exact e, hok x o⟩⟩
def SlD.l (s : SlD X) : List Value := [.slice s.a s.xs.length s.cap]
structure SlD.Ok (w : World) (m : Nat) (f : X → List Value) (okx : X → Prop) (s : SlD X) : Prop where
  ro : RoSl m (s.xs.flatMap f) s.a s.xs.length s.ro
  mem : ∀ p ∈ s.ro, w.heap[p.1]? = some p.2
  all : ∀ x ∈ s.xs, okx x
  cap : s.xs.length ≤ s.cap
  max : s.cap ≤ maxLen
theorem Opens.sl {t e : TypeId} {m : Nat} {f : X → List Value} {Ok : X → Prop} (he : Opens enc P w spare held e m f Ok) (hm : 0 < m) (ht : P.underlying t = some (.slice e)) (hct : P.cellsOf t = 1) :
    Opens enc P w spare held t 1 SlD.l (SlD.Ok w m f Ok) := by
  refine ⟨fun _ => rfl, hct, fun fuel cs y h => ?_⟩
  have hf := he.len
  have hC := he.cells
  rcases open_slice ht h with ⟨hcs, _⟩ | ⟨a', len, cap, m', n', D, Pl, hcs, _, hlc, hcm, hmm, _, hel⟩
  · exact ⟨⟨none, 0, [], []⟩, hcs, ⟨by simp, .inl ⟨rfl, rfl⟩⟩, fun _ h => (by cases h), fun _ h => (by cases h), Nat.le_refl _, by simp [maxLen]⟩
  · have hml : len ≤ m' := by rw [hmm]; split <;> omega
    rw [hC] at hel
    have hel2 : ∀ i, i < len → ∃ x, (∀ j, j < m → w.cell? (a'.add (i * m + j)) = (f x)[j]?) ∧ Ok x := by
      intro i hi
      obtain ⟨cs', h1, h2⟩ := hel i (by omega)
      obtain ⟨x, rfl, hx⟩ := he.go _ _ _ h2
      obtain ⟨_, _, h3⟩ := World.cells?_some h1
      refine ⟨x, fun j hj => ?_, hx⟩
      rw [← h3 j hj, Go.Deep.add_add]
    obtain ⟨xs, hxl, hxs⟩ := choose_list _ len hel2
    by_cases h0 : len = 0
    · subst h0
      have : xs = [] := List.eq_nil_of_length_eq_zero hxl
      subst this
      exact ⟨⟨some a', cap, [], []⟩, hcs, ⟨by simp, .inl ⟨rfl, rfl⟩⟩, fun _ h => (by cases h), fun _ h => (by cases h), Nat.zero_le _, hcm⟩
    · subst hxl
      have c0 := (hxs 0 (by omega)).1 0 hm
      simp only [Nat.zero_mul, Nat.zero_add] at c0
      have hlt0 : 0 < (f (xs[0]'(by omega))).length := by rw [hf]; exact hm
      rw [List.getElem?_eq_getElem hlt0] at c0
      obtain ⟨c, e', fr, hb, hsp, hc0⟩ := block_of_cell c0
      have hadd0 : a'.add 0 = a' := by simp [Addr.add]
      rw [hadd0] at hb hsp hc0
      obtain ⟨b, off, sp⟩ := a'
      simp only at hsp hb hc0
      subst hsp
      have hcell : ∀ i (hi : i < xs.length), ∀ j, j < m → c.toList[off + (i * m + j)]? = (f xs[i])[j]? := by
        intro i hi j hj
        have := (hxs i hi).1 j hj
        rw [Go.Sl.Addr.add_none', cell_of_row w b _ c e' fr hb] at this
        rw [← this]; simp
      have hlen : off + xs.length * m ≤ c.toList.length := by
        have h1 := hcell (xs.length - 1) (by omega) (m - 1) (by omega)
        have hfl : m - 1 < (f (xs[xs.length - 1]'(by omega))).length := by rw [hf]; omega
        rw [List.getElem?_eq_getElem hfl] at h1
        have h2 := (List.getElem?_eq_some_iff.1 h1).1
        have h3 : xs.length * m = (xs.length - 1) * m + m := by
          rw [← Nat.succ_mul]; congr 1; omega
        omega
      refine ⟨⟨some ⟨b, off, none⟩, cap, xs, [(b, .cells c e' fr)]⟩, hcs, ⟨flatMap_len f m hf xs, .inr ⟨b, off, c.toList, e', fr, rfl, by simp, hlen, ?_⟩⟩, ?_, ?_, hlc, hcm⟩
      · refine flatMap_of_segs f m hf xs _ (by simp at hlen ⊢; omega) (fun i hi => ?_)
        apply List.ext_getElem?
        intro j
        by_cases hj : j < m
        · have h1 : i * m + m ≤ xs.length * m := by rw [← Nat.succ_mul]; exact Nat.mul_le_mul_right m hi
          dsimp only
          rw [List.getElem?_take, if_pos hj, List.getElem?_drop, List.getElem?_take, if_pos (by omega), List.getElem?_drop, hcell i hi j hj]
        · rw [List.getElem?_eq_none (by simp; omega), List.getElem?_eq_none (by rw [hf]; omega)]
      · intro p hp
        simp at hp
        subst hp
        exact hb
      · intro x hx
        obtain ⟨i, hi, rfl⟩ := List.getElem_of_mem hx
        exact (hxs i hi).2
/-- The fields of a struct, one behind the other: (type, cells). -/
structure OpenF (enc : TypeId × Value → H) (P : Program) (w : World) (spare : Nat → Bool) (held : Bool) (fs : List (TypeId × Nat)) (m : Nat) (f : X → List Value) (Ok : X → Prop) : Prop where
  len : ∀ x, (f x).length = m
  go : ∀ (cs : List Value), cs.length = m → (∀ (i o : Nat) (t : TypeId) (k : Nat), fs[i]? = some (t, k) → o = ((fs.take i).map (·.2)).sum → ∃ n y, DataW.trod enc P w 0 spare held n t ((cs.drop o).take k) = some y) → ∃ x, cs = f x ∧ Ok x
theorem OpenF.nil : OpenF enc P w spare held [] 0 (fun _ : Unit => []) (fun _ => True) := ⟨fun _ => rfl, fun cs h _ => ⟨(), List.eq_nil_of_length_eq_zero h, trivial⟩⟩
theorem OpenF.cons {t : TypeId} {k m : Nat} {fs : List (TypeId × Nat)} {f : X → List Value} {g : Y → List Value} {Ok : X → Prop} {Ok' : Y → Prop} (h1 : Opens enc P w spare held t k f Ok) (h2 : OpenF enc P w spare held fs m g Ok') :
    OpenF enc P w spare held ((t, k) :: fs) (k + m) (fun q : X × Y => f q.1 ++ g q.2) (fun q => Ok q.1 ∧ Ok' q.2) := by
  refine ⟨fun q => by rw [List.length_append, h1.len, h2.len], fun cs hl hg => ?_⟩
  obtain ⟨n, y, h3⟩ := hg 0 0 t k rfl rfl
  obtain ⟨x, e1, o1⟩ := h1.go _ _ _ h3
  obtain ⟨z, e2, o2⟩ := h2.go (cs.drop k) (by rw [List.length_drop]; omega) (fun i o t' k' hi ho => by
    obtain ⟨n', y', h4⟩ := hg (i + 1) (k + o) t' k' (by simpa using hi) (by simp [ho])
    exact ⟨n', y', by rw [List.drop_drop]; exact h4⟩)
  refine ⟨(x, z), ?_, o1, o2⟩
  simp only [List.drop_zero] at e1
  rw [← e1, ← e2, List.take_append_drop]
def sums : Nat → List (TypeId × Nat) → List (TypeId × Nat)
  | _, [] => []
  | o, (t, k) :: r => (t, o) :: sums (o + k) r
theorem sums_get : ∀ (fs : List (TypeId × Nat)) (o i : Nat) (t : TypeId) (k : Nat), fs[i]? = some (t, k) → (sums o fs)[i]? = some (t, o + ((fs.take i).map (·.2)).sum)
  | (t', k') :: r, o, 0, t, k, h => by simp at h; obtain ⟨rfl, rfl⟩ := h; simp [sums]
  | (t', k') :: r, o, i + 1, t, k, h => by
    have := sums_get r (o + k') i t k (by simpa using h)
    simp only [sums, List.getElem?_cons_succ, this, List.take_succ_cons, List.map_cons, List.sum_cons]
    congr 2
    omega
  | [], _, _, _, _, h => by simp at h
theorem Opens.st {t : TypeId} {fa : Array Field} {fs : List (TypeId × Nat)} {m : Nat} {f : X → List Value} {Ok : X → Prop} (h : OpenF enc P w spare held fs m f Ok) (ht : P.underlying t = some (.struct fa))
    (hf : fa.toList.map (fun f => (f.type, f.offset)) = sums 0 fs) (hc : P.cellsOf t = m) (hcs : ∀ q ∈ fs, P.cellsOf q.1 = q.2) : Opens enc P w spare held t m f Ok := by
  refine ⟨h.len, hc, fun fuel cs y hy => ?_⟩
  obtain ⟨xs, n, _, _, hlen, hxl, hg⟩ := DataW.trod_struct ht hy
  refine h.go cs (by rw [hlen, hc]) (fun i o t' k hi ho => ?_)
  have h1 := sums_get fs 0 i t' k hi
  rw [← hf, List.getElem?_map, Option.map_eq_some_iff] at h1
  obtain ⟨fd, h2, h3⟩ := h1
  simp only [Prod.mk.injEq] at h3
  have h2' : fa[i]? = some fd := by simpa using h2
  have h4 := hg i fd h2'
  have hk := hcs (t', k) (List.mem_of_getElem? hi)
  simp only at hk
  rw [h3.1, h3.2, hk, Nat.zero_add, ← ho] at h4
  have hil : i < xs.length := by
    rw [hxl]
    exact (Array.getElem?_eq_some_iff.1 h2').1
  rw [List.getElem?_eq_getElem hil] at h4
  exact ⟨n, _, h4⟩

/-! ### Arguments -/
theorem Opens.argSl {t e : TypeId} {m : Nat} {f : X → List Value} {Ok : X → Prop} (he : Opens enc P w spare held e m f Ok) (hm : 0 < m) (ht : P.underlying t = some (.slice e)) (hct : P.cellsOf t = 1)
    {r : Reach} {b0 : Nat} {v : Value} {d : DataW H} {ps : List MemPlace} (hok : Value.okWide P w r b0 t v) (h : DataW.Trod enc P w 0 spare held t v d ps) : ∃ s : SlD X, v = .slice s.a s.xs.length s.cap ∧ SlD.Ok w m f Ok s := by
  obtain ⟨a, len, cap, rfl⟩ := okWide_slice ht hok
  obtain ⟨fuel, hf⟩ := h
  obtain ⟨s, e1, e2⟩ := (Opens.sl he hm ht hct).go _ _ _ hf
  simp only [Value.cells, SlD.l, List.cons.injEq, and_true] at e1
  exact ⟨s, e1, e2⟩
theorem Opens.argSt {t : TypeId} {fa : Array Field} {m : Nat} {f : X → List Value} {Ok : X → Prop} (ho : Opens enc P w spare held t m f Ok) (ht : P.underlying t = some (.struct fa))
    {r : Reach} {b0 : Nat} {v : Value} {d : DataW H} {ps : List MemPlace} (hok : Value.okWide P w r b0 t v) (h : DataW.Trod enc P w 0 spare held t v d ps) : ∃ x : X, v = .agg (f x).toArray ∧ Ok x := by
  obtain ⟨cs, rfl, _⟩ := okWide_struct ht hok
  obtain ⟨fuel, hf⟩ := h
  obtain ⟨x, e1, e2⟩ := ho.go _ _ _ hf
  refine ⟨x, ?_, e2⟩
  simp only [Value.cells] at e1
  rw [← e1]
end
end Go.Sl
