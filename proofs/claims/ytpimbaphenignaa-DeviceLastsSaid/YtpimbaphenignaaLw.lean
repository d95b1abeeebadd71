/-
  From a law's contract to its row: the arguments are opened to lists, the world behind the call is as it was below, so that all arguments read as they did.
-/
import Derived.Test.YtpimbaphenignaaRows
import Derived.Test.YtpimbaphenignaaSr
import Derived.ProofKit
import Derived.Carry
import Derived.Deep.Slices
namespace Go.Sl
open Go Go.RowKit Go.ChangeShapes Go.WideShapes Go.Deep

theorem Ctr.below {P : Program} {f : FuncId} {args : List Value} {ro : HL} {post : Value → List HL → Prop} (h : Ctr P f args [] ro post) {W : World} (hro : ∀ p ∈ ro, W.heap[p.1]? = some p.2) {v : Value}
    (hv : ∀ u L', post u L' → u = v) : Calls P f args.toArray W fun e w' => e = .returned v ∧ Below W.heap.size W w' := by
  refine (h.go W (fun p hp => by simp at hp) (by simp [ids]) (fun p hp => ⟨hro p hp, by simp [ids]⟩)).mono ?_
  rintro e w' ⟨u, L', rfl, hpost, hst⟩
  exact ⟨by rw [hv u L' hpost], ⟨hst.env.1, hst.env.2.1, hst.env.2.2, hst.sz, fun k hk => hst.fr k hk (by simp [ids])⟩⟩

theorem trodAll_below {H : Type} {enc : TypeId × Value → H} {P : Program} (hl : laidOutB P = true) {W W' : World} (hb : Below W.heap.size W W') :
    ∀ (ts : List TypeId) (vs : List Value) (ds : List (DataW H)) (ps : List MemPlace), (∀ t ∈ ts, P.readableRec t = true ∧ t < P.types.size) → (∀ x ∈ ps, x.block < W.heap.size) →
      DataW.TrodAll enc P W 0 (fun _ => true) true ts vs ds ps → DataW.TrodAll enc P W' 0 (fun b => decide (b < W.heap.size)) true ts vs ds ps
  | [], [], [], _, _, _, h => h
  | t :: ts, v :: vs, d :: ds, ps, hr, hlt, h => by
    obtain ⟨p, q, h1, h2, rfl⟩ := h
    have hrt := hr t (by simp)
    exact ⟨p, q, Below.trod hl hrt.1 hrt.2 h1 hb (fun x hx => hlt x (by simp [hx])), trodAll_below hl hb ts vs ds q (fun t ht => hr t (by simp [ht])) (fun x hx => hlt x (by simp [hx])) h2, rfl⟩
  | [], _ :: _, _, _, _, _, h => by simp [DataW.TrodAll] at h
  | [], [], _ :: _, _, _, _, h => by simp [DataW.TrodAll] at h
  | _ :: _, [], _, _, _, _, h => by simp [DataW.TrodAll] at h
  | _ :: _, _ :: _, [], _, _, _, h => by simp [DataW.TrodAll] at h

/-- The end of a law's row. -/
theorem law_end {H : Type} {enc : TypeId × Value → H} {P : Program} {f : Func} {s : ChangeSpec} {W W' : World} {args : Array Value} {ds : List (DataW H)} {before : List MemPlace} {tb : TypeId}
    (hl : laidOutB P = true) (hr0 : (f.params.toList.all fun t => P.readableRec t && decide (t < P.types.size)) = true) (hres : f.resultTypes = #[tb]) (hb : P.underlying tb = some .bool)
    (hW : DataW.Whole enc P f.params.toList s.vars false W args.toList ds [] before) (hv : s.vars = [])
    (h1 : (s.fn H (ds ++ [])).results = [.lit (.bool true)]) (h2 : (s.fn H (ds ++ [])).args = ds) (h3 : (s.fn H (ds ++ [])).vars = [])
    (hbel : Below W.heap.size W W') : s.post enc P f false true false false W args (.bool true) W' := by
  have hr : ∀ t ∈ f.params.toList, P.readableRec t = true ∧ t < P.types.size := fun t ht => by
    have := List.all_eq_true.1 hr0 t ht
    simpa using this
  have hlt := hW.lt
  have hW2 := hW
  obtain ⟨p, q, hA, hV, rfl, _, _⟩ := hW2
  refine ⟨ds, [], _, [], p, [], hW, ?_, ?_, ?_, hbel.frame _, fun h => by cases h⟩
  · rw [hres, h1]
    exact trodAll_mk1 (shut_bool hb true)
  · rw [h2]
    exact trodAll_below hl hbel _ _ _ _ hr (fun x hx => hlt x (by simp [hx])) hA
  · rw [hv, h3]
    rfl

/-! ### Slices that came in, as lists -/
theorem choose_list {X : Type} (p : Nat → X → Prop) : ∀ n : Nat, (∀ i, i < n → ∃ x, p i x) → ∃ xs : List X, xs.length = n ∧ ∀ i (h : i < xs.length), p i xs[i]
  | 0, _ => ⟨[], rfl, fun i h => by simp at h⟩
  | n + 1, h => by
    obtain ⟨xs, hl, hx⟩ := choose_list p n (fun i hi => h i (by omega))
    obtain ⟨x, hxp⟩ := h n (by omega)
    refine ⟨xs ++ [x], by simp [hl], fun i hi => ?_⟩
    by_cases hin : i < xs.length
    · rw [List.getElem_append_left hin]; exact hx i hin
    · have : i = n := by simp at hi; omega
      subst this
      simp [hl]
      exact hxp
theorem block_of_cell {w : World} {a : Addr} {v : Value} (h : w.cell? a = some v) : ∃ c e fr, w.heap[a.block]? = some (.cells c e fr) ∧ a.spot = none ∧ c[a.off]? = some v := by
  unfold World.cell? at h
  split at h
  · rename_i c e fr hb
    split at h
    · cases h
    · rename_i hs
      exact ⟨c, e, fr, hb, by simpa using hs, h⟩
  · cases h
theorem flatMap_of_segs {X : Type} (f : X → List Value) (m : Nat) (hf : ∀ x, (f x).length = m) : ∀ (xs : List X) (l : List Value), l.length = xs.length * m →
    (∀ i (h : i < xs.length), (l.drop (i * m)).take m = f xs[i]) → l = xs.flatMap f
  | [], l, hl, _ => by simp at hl; simp [hl]
  | x :: xs, l, hl, h => by
    have h0 := h 0 (by simp)
    simp only [Nat.zero_mul, List.drop_zero, List.getElem_cons_zero] at h0
    have hl' : l.length = m + xs.length * m := by rw [hl, List.length_cons, Nat.add_mul]; omega
    have ih := flatMap_of_segs f m hf xs (l.drop m) (by rw [List.length_drop]; omega) (fun i hi => by
      have := h (i + 1) (by simp; omega)
      simp only [List.getElem_cons_succ] at this
      rw [← this, List.drop_drop]
      congr 2
      rw [Nat.add_mul]; omega)
    rw [List.flatMap_cons, ← h0, ← ih, List.take_append_drop]
section
variable {H : Type} {enc : TypeId × Value → H} {P : Program} {w : World} {spare : Nat → Bool} {held : Bool}
/-- A slice that came in reads as a list, each element by 'conv'. -/
theorem open_list {X : Type} (f : X → List Value) (Ok : X → Prop) (m : Nat) (hm : 0 < m) (hf : ∀ x, (f x).length = m) {t e : TypeId} {v : Value} {d : DataW H} {ps : List MemPlace} (ht : P.underlying t = some (.slice e)) (hC : P.cellsOf e = m)
    (conv : ∀ (fuel : Nat) (cs : List Value) (y : DataW H × List MemPlace), DataW.trod enc P w 0 spare held fuel e cs = some y → ∃ x, cs = f x ∧ Ok x)
    {r : Reach} {b0 : Nat} (hok : Value.okWide P w r b0 t v) (h : DataW.Trod enc P w 0 spare held t v d ps) :
    ∃ (a : Option Addr) (cap : Nat) (xs : List X) (ro : HL), v = .slice a xs.length cap ∧ RoSl m (xs.flatMap f) a xs.length ro ∧ (∀ p ∈ ro, w.heap[p.1]? = some p.2) ∧ (∀ x ∈ xs, Ok x) ∧ xs.length ≤ cap ∧ cap ≤ maxLen := by
  obtain ⟨a, len, cap, rfl⟩ := okWide_slice ht hok
  obtain ⟨fuel, hf'⟩ := h
  rcases open_slice ht hf' with ⟨hcs, _⟩ | ⟨a', len', cap', m', n', D, Pl, hcs, _, hlc, hcm, hmm, _, hel⟩
  · simp only [Value.cells] at hcs
    simp only [List.cons.injEq, Value.slice.injEq, and_true] at hcs
    obtain ⟨rfl, rfl, rfl⟩ := hcs
    exact ⟨none, 0, [], [], rfl, ⟨by simp, .inl ⟨rfl, rfl⟩⟩, fun _ h => (by cases h), fun _ h => (by cases h), Nat.le_refl _, by simp [maxLen]⟩
  · simp only [Value.cells] at hcs
    simp only [List.cons.injEq, Value.slice.injEq, and_true] at hcs
    obtain ⟨rfl, rfl, rfl⟩ := hcs
    have hml : len ≤ m' := by rw [hmm]; split <;> omega
    rw [hC] at hel
    have hel2 : ∀ i, i < len → ∃ x, (∀ j, j < m → w.cell? (a'.add (i * m + j)) = (f x)[j]?) ∧ Ok x := by
      intro i hi
      obtain ⟨cs', h1, h2⟩ := hel i (by omega)
      obtain ⟨x, rfl, hx⟩ := conv _ _ _ h2
      obtain ⟨_, _, h3⟩ := World.cells?_some h1
      refine ⟨x, fun j hj => ?_, hx⟩
      rw [← h3 j hj, Go.Deep.add_add]
    obtain ⟨xs, hxl, hxs⟩ := choose_list _ len hel2
    by_cases h0 : len = 0
    · subst h0
      have : xs = [] := List.eq_nil_of_length_eq_zero hxl
      subst this
      exact ⟨some a', cap, [], [], rfl, ⟨by simp, .inl ⟨rfl, rfl⟩⟩, fun _ h => (by cases h), fun _ h => (by cases h), Nat.zero_le _, hcm⟩
    · subst hxl
      have c0 := (hxs 0 (by omega)).1 0 hm
      simp only [Nat.zero_mul, Nat.zero_add] at c0
      have hlt0 : 0 < (f (xs[0]'(by omega))).length := by rw [hf]; exact hm
      rw [List.getElem?_eq_getElem hlt0] at c0
      obtain ⟨c, e', fr, hb, hsp, hc0⟩ := block_of_cell c0
      have hadd0 : a'.add 0 = a' := by simp [Addr.add]
      rw [hadd0] at hb hsp hc0
      obtain ⟨b, off, sp⟩ := a'
      simp only at hsp hb hc0
      subst hsp
      have hcell : ∀ i (hi : i < xs.length), ∀ j, j < m → c.toList[off + (i * m + j)]? = (f xs[i])[j]? := by
        intro i hi j hj
        have := (hxs i hi).1 j hj
        rw [Go.Sl.Addr.add_none', cell_of_row w b _ c e' fr hb] at this
        rw [← this]; simp
      have hlen : off + xs.length * m ≤ c.toList.length := by
        have h1 := hcell (xs.length - 1) (by omega) (m - 1) (by omega)
        have hfl : m - 1 < (f (xs[xs.length - 1]'(by omega))).length := by rw [hf]; omega
        rw [List.getElem?_eq_getElem hfl] at h1
        have h2 := (List.getElem?_eq_some_iff.1 h1).1
        have h3 : xs.length * m = (xs.length - 1) * m + m := by
          rw [← Nat.succ_mul]; congr 1; omega
        omega
      refine ⟨some ⟨b, off, none⟩, cap, xs, [(b, .cells c e' fr)], rfl, ⟨flatMap_len f m hf xs, .inr ⟨b, off, c.toList, e', fr, rfl, by simp, hlen, ?_⟩⟩, ?_, ?_, hlc, hcm⟩
      · refine flatMap_of_segs f m hf xs _ (by simp at hlen ⊢; omega) (fun i hi => ?_)
        apply List.ext_getElem?
        intro j
        by_cases hj : j < m
        · have h1 : i * m + m ≤ xs.length * m := by rw [← Nat.succ_mul]; exact Nat.mul_le_mul_right m hi
          rw [List.getElem?_take, if_pos hj, List.getElem?_drop, List.getElem?_take, if_pos (by omega), List.getElem?_drop, hcell i hi j hj]
        · rw [List.getElem?_eq_none (by simp; omega), List.getElem?_eq_none (by rw [hf]; omega)]
      · intro p hp
        simp at hp
        subst hp
        exact hb
      · intro x hx
        obtain ⟨i, hi, rfl⟩ := List.getElem_of_mem hx
        exact (hxs i hi).2
end
theorem RoSl.take {α : Type} {f : α → List Value} {m : Nat} (hf : ∀ x, (f x).length = m) {xs : List α} {a : Option Addr} {ro : HL} (h : RoSl m (xs.flatMap f) a xs.length ro) (j : Nat) (hj : j ≤ xs.length) :
    RoSl m ((xs.take j).flatMap f) a j ro := by
  have e : (xs.take j).flatMap f = (xs.flatMap f).take (j * m) := by
    have h1 : xs.flatMap f = (xs.take j).flatMap f ++ (xs.drop j).flatMap f := by rw [← List.flatMap_append, List.take_append_drop]
    have h2 : ((xs.take j).flatMap f).length = j * m := by rw [flatMap_len f m hf, List.length_take]; congr 1; omega
    rw [h1, ← h2, List.take_left]
  refine ⟨by rw [flatMap_len f m hf, List.length_take]; congr 1; omega, ?_⟩
  by_cases h0 : j = 0
  · subst h0
    rcases h.2 with ⟨h1, h2⟩ | ⟨b, off, l, e', fr, h1, h2, h3, h4⟩
    · exact .inl ⟨rfl, h2⟩
    · exact .inr ⟨b, off, l, e', fr, h1, h2, by omega, by simp⟩
  · rcases h.2 with ⟨h1, _⟩ | ⟨b, off, l, e', fr, h1, h2, h3, h4⟩
    · omega
    · have hjm : j * m ≤ xs.length * m := Nat.mul_le_mul_right m hj
      refine .inr ⟨b, off, l, e', fr, h1, h2, by omega, ?_⟩
      rw [e, ← h4, List.take_take]
      congr 1
      omega
end Go.Sl
