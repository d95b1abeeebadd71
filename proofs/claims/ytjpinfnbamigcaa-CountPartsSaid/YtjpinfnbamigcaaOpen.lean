/-
  Counts that came in, as six numbers.
-/
import Derived.Test.YtjpinfnbamigcaaCe
import Derived.OpenShut
namespace Go.Proofs.Ytjpinfnbamigcaa
open Go Go.Sl Go.RowKit Go.ChangeShapes Go.WideShapes
theorem wf_i64 {a : Int} (h : (Lit.int .i64 a).wf = true) : -9223372036854775808 ≤ a ∧ a ≤ 9223372036854775807 := by
  simp only [Lit.wf, Bool.and_eq_true, decide_eq_true_eq] at h
  exact h
theorem wf_u64 {a : Int} (h : (Lit.int .u64 a).wf = true) : u64 a := by
  simp only [Lit.wf, Bool.and_eq_true, decide_eq_true_eq] at h
  have : 0 ≤ a ∧ a ≤ 18446744073709551615 := h
  exact ⟨this.1, by omega⟩
section
variable {H : Type} {enc : TypeId × Value → H} {w : World} {spare : Nat → Bool} {held : Bool}
theorem counts_of {fuel : Nat} {cs : List Value} {y : DataW H × List MemPlace} (h : DataW.trod enc Try.prog w 0 spare held fuel 28 cs = some y) : ∃ c : C6, cs = c.l ∧ c.Ok := by
  obtain ⟨xs, n, _, _, hlen, hxl, hg⟩ := DataW.trod_struct und_c6 h
  have hfs : ∀ j < 6, ∃ f, (Try.prog.fieldsOf 28)[j]? = some f ∧ f.type = 26 ∧ f.offset = j := by
    have h6 : (Try.prog.fieldsOf 28).toList.map (fun f => (f.type, f.offset)) = [(26, 0), (26, 1), (26, 2), (26, 3), (26, 4), (26, 5)] := by kernel_rfl
    intro j hj
    have h7 := congrArg (fun l => l[j]?) h6
    simp only [List.getElem?_map] at h7
    have h8 : ([(26, 0), (26, 1), (26, 2), (26, 3), (26, 4), (26, 5)] : List (Nat × Nat))[j]? = some (26, j) := by
      have : j = 0 ∨ j = 1 ∨ j = 2 ∨ j = 3 ∨ j = 4 ∨ j = 5 := by omega
      rcases this with rfl | rfl | rfl | rfl | rfl | rfl <;> rfl
    rw [h8, Option.map_eq_some_iff] at h7
    obtain ⟨f, hf, he⟩ := h7
    simp only [Prod.mk.injEq] at he
    exact ⟨f, by simpa using hf, he.1, he.2⟩
  have hc6 : Try.prog.cellsOf 28 = 6 := by kernel_rfl
  have hc1 : Try.prog.cellsOf 26 = 1 := by kernel_rfl
  have hsz : (Try.prog.fieldsOf 28).size = 6 := by kernel_rfl
  rw [hc6] at hlen
  have key : ∀ j < 6, ∃ i : Int, cs[j]? = some (.int .u64 i) ∧ u64 i := by
    intro j hj
    obtain ⟨f, hf, ht, ho⟩ := hfs j hj
    have h1 := hg j f hf
    rw [ht, ho, hc1] at h1
    have hx : xs[j]? = some (xs[j]'(by omega)) := List.getElem?_eq_getElem (by omega)
    rw [hx] at h1
    obtain ⟨i, hi, _, hw⟩ := DataW.trod_int Try.underlying26 h1
    refine ⟨i, ?_, wf_u64 hw⟩
    have h2 := congrArg (fun l => l[0]?) hi
    simpa using h2
  obtain ⟨c0, c1, c2, c3, c4, c5, rfl⟩ : ∃ c0 c1 c2 c3 c4 c5, cs = [c0, c1, c2, c3, c4, c5] := by
    match cs, hlen with
    | [c0, c1, c2, c3, c4, c5], _ => exact ⟨c0, c1, c2, c3, c4, c5, rfl⟩
  obtain ⟨a0, h0, u0⟩ := key 0 (by decide)
  obtain ⟨a1, h1, u1⟩ := key 1 (by decide)
  obtain ⟨a2, h2, u2⟩ := key 2 (by decide)
  obtain ⟨a3, h3, u3⟩ := key 3 (by decide)
  obtain ⟨a4, h4, u4⟩ := key 4 (by decide)
  obtain ⟨a5, h5, u5⟩ := key 5 (by decide)
  cases h0; cases h1; cases h2; cases h3; cases h4; cases h5
  exact ⟨⟨a0, a1, a2, a3, a4, a5⟩, rfl, u0, u1, u2, u3, u4, u5⟩
theorem open_counts {r : Reach} {b0 : Nat} {v : Value} {d : DataW H} {ps : List MemPlace} (hok : Value.okWide Try.prog w r b0 28 v) (h : DataW.Trod enc Try.prog w 0 spare held 28 v d ps) : ∃ c : C6, v = c.v ∧ c.Ok := by
  obtain ⟨cs, rfl, _⟩ := okWide_struct und_c6 hok
  obtain ⟨fuel, hf⟩ := h
  obtain ⟨c, hc, ho⟩ := counts_of hf
  refine ⟨c, ?_, ho⟩
  simp only [Value.cells] at hc
  obtain ⟨cl⟩ := cs
  have hc' : cl = c.l := hc
  rw [hc']
  rfl
theorem open_counts_list {r : Reach} {b0 : Nat} {t : TypeId} {v : Value} {d : DataW H} {ps : List MemPlace} (ht : Try.prog.underlying t = some (.slice 28)) (hok : Value.okWide Try.prog w r b0 t v) (h : DataW.Trod enc Try.prog w 0 spare held t v d ps) :
    ∃ (a : Option Addr) (cap : Nat) (xs : List C6) (ro : HL), v = .slice a xs.length cap ∧ RoSl 6 (xs.flatMap C6.l) a xs.length ro ∧ (∀ p ∈ ro, w.heap[p.1]? = some p.2) ∧ (∀ x ∈ xs, C6.Ok x) ∧ xs.length ≤ cap ∧ cap ≤ maxLen :=
  open_list C6.l C6.Ok 6 (by decide) C6.l_len ht (by kernel_rfl) (fun _ _ _ h => counts_of h) hok h
theorem open_ints {r : Reach} {b0 : Nat} {t e : TypeId} {kk : IntKind} {v : Value} {d : DataW H} {ps : List MemPlace} {Ok : Int → Prop} (ht : Try.prog.underlying t = some (.slice e)) (he : Try.prog.underlying e = some (.int kk)) (hc : Try.prog.cellsOf e = 1)
    (hw : ∀ i, (Lit.int kk i).wf = true → Ok i) (hok : Value.okWide Try.prog w r b0 t v) (h : DataW.Trod enc Try.prog w 0 spare held t v d ps) :
    ∃ (a : Option Addr) (cap : Nat) (xs : List Int) (ro : HL), v = .slice a xs.length cap ∧ RoSl 1 (xs.flatMap fun x => [.int kk x]) a xs.length ro ∧ (∀ p ∈ ro, w.heap[p.1]? = some p.2) ∧ (∀ x ∈ xs, Ok x) ∧ xs.length ≤ cap ∧ cap ≤ maxLen :=
  open_list (fun x => [.int kk x]) Ok 1 (by decide) (fun _ => rfl) ht hc (fun _ _ _ h => by
    obtain ⟨i, rfl, _, hwf⟩ := DataW.trod_int he h
    exact ⟨i, rfl, hw i hwf⟩) hok h
end
end Go.Proofs.Ytjpinfnbamigcaa
