/-
  Plans: the laws' contracts PlanParts, PlanRow, PlanMost.
-/
import Derived.Test.YtgipjpiiomgjjaaDoorLd
import Derived.Test.YtgipjpiiomgjjaaDoorRows
import Derived.Lib.LaidTab
namespace Go.Proofs.YtgipjpiiomgjjaaDoor
open Go Go.Sl Go.IntWalk
set_option maxHeartbeats 4000000
set_option maxRecDepth 20000
/-- The listed table, as a block that is read. -/
theorem tab_block {W : World} {r : List (String × DataW Unit)} (h : laidMet Tryd.prog (( "internal/strconv.uint64pow10", Rows.laid_internal_strconv_uint64pow10) :: r) W) :
    ∃ e fr, W.heap[0]? = some (.cells (Lib.pow10Tab.map fun z => Value.int .u64 z).toArray e fr) := by
  have h1 : laidMet Tryd.prog (( "internal/strconv.uint64pow10", Lib.tabData .u64 Lib.pow10Tab) :: r) W := by
    have e : (Rows.laid_internal_strconv_uint64pow10 : DataW Unit) = Lib.tabData .u64 Lib.pow10Tab := by kernel_rfl
    rw [← e]
    exact h
  have h2 := Lib.tabIs_of_head (g := 0) (by kernel_rfl) (by kernel_rfl) Tryd.underlying58 Tryd.underlying52 (by kernel_rfl) (by kernel_rfl) h1
  unfold Lib.TabIs World.var? at h2
  have hg : Tryd.prog.globalNamed "internal/strconv.uint64pow10" = some 0 := by kernel_rfl
  rw [hg] at h2
  simp only [Option.bind_some] at h2
  split at h2
  · rename_i cs e fr hh
    cases h2
    exact ⟨e, fr, hh⟩
  · cases h2
theorem Io_eq (x y : Io) : EqD Tryd.prog 2 25 (.agg (io3 x).toArray) (.agg (io3 y).toArray) (eqIo x y) :=
  EqD.struct (P := Tryd.prog) (k := 1) (fs := Tryd.prog.fieldsOf 25) (by kernel_rfl) (by kernel_rfl)
    (FEqs.of_sig (sig := [(false, 3, 0), (false, 3, 1), (false, 3, 2)]) (by kernel_rfl)
      ⟨_, _, rfl, rfl, FEqT.one ty_3.1 rfl rfl (EqD.int Tryd.underlying3), _, _, rfl, rfl, FEqT.one ty_3.1 rfl rfl (EqD.int Tryd.underlying3), _, _, rfl, rfl, FEqT.one ty_3.1 rfl rfl (EqD.int Tryd.underlying3), rfl⟩)
theorem Io_guard : Tryd.prog.eqGuardType Tryd.prog.depth 25 = false := by kernel_rfl
theorem own_at {xs : List Io} {t cap n : Nat} {a : Option Addr} {H : HL} (hn : n = xs.length) (h : Own 3 t (ios xs) a n cap H) {i : Nat} (hi : i < xs.length) :
    ∃ b l, a = some ⟨b, 0, none⟩ ∧ (b, Obj.cells (List.toArray l) t (0, 0)) ∈ H ∧ seg? l (0 + i * 3) 3 = some (io3 xs[i]) := by
  obtain ⟨b, l, rfl, rfl, h3, h4, h5⟩ := h.some (by omega)
  exact ⟨b, l, rfl, by simp, own_io hn h hi⟩
theorem PlanParts_spec (xs : List Int) (a : Option Addr) (cap : Nat) (hcap : xs.length ≤ cap) (ro : HL) (hro : RoSl 1 (ints xs) a xs.length ro) (at_ : Int) (hat : i64s at_) :
    Ctr Tryd.prog 4 [.slice a xs.length cap, .int .i64 at_] [] ro (fun v L' => v = .bool true ∧ L' = []) := by
  have hmin : (if (8 : Int) < (xs.length : Int) then (8 : Int) else (xs.length : Int)) = (((xs.take (min xs.length 8)).length : Nat) : Int) := by rw [List.length_take]; split <;> omega
  have hro2 := front_min (cap := cap) (m := 8) hro
  have hf8 : (xs.take (min xs.length 8)).length ≤ 8 := by rw [List.length_take]; omega
  have hfc : (xs.take (min xs.length 8)).length ≤ cap := by rw [List.length_take]; omega
  generalize xs.take (min xs.length 8) = few at hmin hro2 hf8 hfc
  have q := around_range at_ ((few.length : Int) + 1) (by omega)
  have hA := Around_spec at_ ((few.length : Int) + 1) hat (by omega)
  obtain ⟨k, hk⟩ : ∃ k : Nat, around at_ ((few.length : Int) + 1) = (k : Int) := ⟨(around at_ ((few.length : Int) + 1)).toNat, by omega⟩
  rw [hk] at hA q
  have hkl : k ≤ few.length := by omega
  have e1 : (few.take k).length = k := by rw [List.length_take]; omega
  have e2 : (few.drop k).length = few.length - k := List.length_drop
  have rT : RoSl 1 (ints (few.take k)) a k ro := RoSl.take (f := fun x => [Value.int .i64 x]) (fun _ => rfl) hro2 k hkl
  have rD : RoSl 1 (ints (few.drop k)) (a.map fun ad => if cap = k then ad else ad.add (k * 1)) (few.length - k) ro := by
    rcases RoSl.drop (f := fun x => [Value.int .i64 x]) (cap := cap) (fun _ => rfl) hro2 k hkl with h | h
    · exact h
    · omega
  have s1 := Stores_spec (few.take k) (by omega) a cap ro (by rw [e1]; exact rT)
  have s2 := Stores_spec (few.drop k) (by omega) _ (cap - k) ro (by rw [e2]; exact rD)
  have s3 := Stores_spec few (by omega) a cap ro hro2
  have hsum : pages 2 few = pages 2 (few.take k) ++ pages 2 (few.drop k) := by unfold pages; rw [← List.flatMap_append, List.take_append_drop]
  have l1 := pages_len 2 (few.take k)
  have l2 := pages_len 2 (few.drop k)
  have l3 := pages_len 2 few
  rw [e1] at s1 l1
  rw [e2] at s2 l2
  generalize pages 2 (few.take k) = A at s1 hsum l1
  generalize pages 2 (few.drop k) = B at s2 hsum l2
  generalize pages 2 few = C at s3 hsum l3
  subst hsum
  refine Ctr.enter (n := 79) [.tmp 4] [(0, _), (1, _)] Tryd.func4 rfl rfl rfl (lb rfl) Tryd.call4 ⟨rfl, rfl, trivial⟩ ?_
  intro cx fin fin0
  refine aG ?_
  refine aV (OpVal.min2 rfl rfl) ?_
  refine aV (OpVal.front tab_ok rfl rfl rfl rfl hmin hfc) ?_
  refine aV (OpVal.add rfl rfl (i64_in _ (by omega))) ?_
  refine aC (o := hA) (h := ?_)
  rintro _ _ ⟨rfl, rfl⟩
  refine aG ?_
  refine aV (OpVal.front tab_ok rfl rfl rfl rfl rfl (show k ≤ cap by omega)) ?_
  refine aC (o := s1) (h := ?_)
  rintro _ _ ⟨adA, cA, HA, rfl, rfl, oA⟩
  refine aG ?_
  refine aV (OpVal.back tab_ok rfl rfl rfl rfl rfl hkl hfc) ?_
  refine aC (o := s2) (h := ?_)
  rintro _ _ ⟨adB, cB, HB, rfl, rfl, oB⟩
  refine aG ?_
  refine aC (o := s3) (h := ?_)
  rintro _ _ ⟨adC, cC, HC, rfl, rfl, oC⟩
  refine aG ?_
  refine aV (OpVal.add rfl rfl (i64_in _ (by omega))) ?_
  refine aF ?_ (hb := by simp; omega)
  refine aLp (fun m ρ1 L1 => ∃ j : Nat, j ≤ 2 * few.length ∧ m = 2 * few.length - j ∧ ρ1 = [(10, .int .i64 (j : Int)), (9, .slice adC (2 * few.length) cC), (7, .slice adA (2 * k) cA), (8, .slice adB (2 * (few.length - k)) cB)] ∧ L1 = [HC, HB, HA]) (o := ⟨0, by omega, rfl, rfl, rfl⟩) (h := ?_)
  rintro m ρ1 L1 ⟨j, hj, rfl, rfl, rfl⟩
  refine aG ?_
  by_cases hlt : j < 2 * few.length
  · refine aT ?_ (hb := by simp; omega)
    obtain ⟨bC, lC, rfl, mC, sC⟩ := own_at l3.symm oC (i := j) (by omega)
    by_cases hjk : j < 2 * k
    · obtain ⟨bA, lA, rfl, mA, sA⟩ := own_at l1.symm oA (i := j) (by omega)
      rw [List.getElem_append_left (by omega)] at sC
      generalize A[j] = x at sA sC
      refine W.draw follows (by decide +kernel) (zG ?_)
      repeat (first | refine zL ?_ | (first | refine zGo ?_ | refine zSk ?_ | refine zUn ?_ | fail) | (first | refine zPT ?_ | refine zPF ?_ | fail) | refine zV (OpVal.add rfl rfl (i64_in _ (by omega))) ?_ | refine zV (OpVal.sub rfl rfl (i64_in _ (by omega))) ?_ | refine zV (OpVal.neBool tab_ok rfl rfl rfl) ?_ | refine zV (OpVal.eqBool tab_ok rfl rfl rfl) ?_ | refine zV (OpVal.eqNil tab_ok rfl rfl rfl) ?_ | refine zV (OpVal.neNil tab_ok rfl rfl rfl) ?_ | fail)
      refine zV (OpVal.ixSl tab_ok rfl rfl rfl rfl rfl hlt) ?_
      repeat (first | refine zL ?_ | (first | refine zGo ?_ | refine zSk ?_ | refine zUn ?_ | fail) | (first | refine zPT ?_ | refine zPF ?_ | fail) | refine zV (OpVal.add rfl rfl (i64_in _ (by omega))) ?_ | refine zV (OpVal.sub rfl rfl (i64_in _ (by omega))) ?_ | refine zV (OpVal.neBool tab_ok rfl rfl rfl) ?_ | refine zV (OpVal.eqBool tab_ok rfl rfl rfl) ?_ | refine zV (OpVal.eqNil tab_ok rfl rfl rfl) ?_ | refine zV (OpVal.neNil tab_ok rfl rfl rfl) ?_ | fail)
      refine zV (OpVal.loadN ty_25.1 ty_25.2 rfl (at_in 0 rfl mC) sC) ?_
      repeat (first | refine zL ?_ | (first | refine zGo ?_ | refine zSk ?_ | refine zUn ?_ | fail) | (first | refine zPT ?_ | refine zPF ?_ | fail) | refine zV (OpVal.add rfl rfl (i64_in _ (by omega))) ?_ | refine zV (OpVal.sub rfl rfl (i64_in _ (by omega))) ?_ | refine zV (OpVal.neBool tab_ok rfl rfl rfl) ?_ | refine zV (OpVal.eqBool tab_ok rfl rfl rfl) ?_ | refine zV (OpVal.eqNil tab_ok rfl rfl rfl) ?_ | refine zV (OpVal.neNil tab_ok rfl rfl rfl) ?_ | fail)
      refine zV (OpVal.ixSl tab_ok rfl rfl rfl rfl rfl hjk) ?_
      repeat (first | refine zL ?_ | (first | refine zGo ?_ | refine zSk ?_ | refine zUn ?_ | fail) | (first | refine zPT ?_ | refine zPF ?_ | fail) | refine zV (OpVal.add rfl rfl (i64_in _ (by omega))) ?_ | refine zV (OpVal.sub rfl rfl (i64_in _ (by omega))) ?_ | refine zV (OpVal.neBool tab_ok rfl rfl rfl) ?_ | refine zV (OpVal.eqBool tab_ok rfl rfl rfl) ?_ | refine zV (OpVal.eqNil tab_ok rfl rfl rfl) ?_ | refine zV (OpVal.neNil tab_ok rfl rfl rfl) ?_ | fail)
      refine zV (OpVal.loadN ty_25.1 ty_25.2 rfl (at_in 2 rfl mA) sA) ?_
      repeat (first | refine zL ?_ | (first | refine zGo ?_ | refine zSk ?_ | refine zUn ?_ | fail) | (first | refine zPT ?_ | refine zPF ?_ | fail) | refine zV (OpVal.add rfl rfl (i64_in _ (by omega))) ?_ | refine zV (OpVal.sub rfl rfl (i64_in _ (by omega))) ?_ | refine zV (OpVal.neBool tab_ok rfl rfl rfl) ?_ | refine zV (OpVal.eqBool tab_ok rfl rfl rfl) ?_ | refine zV (OpVal.eqNil tab_ok rfl rfl rfl) ?_ | refine zV (OpVal.neNil tab_ok rfl rfl rfl) ?_ | fail)
      refine zV (OpVal.neD (k := 2) rfl rfl (Io_eq x x) (by decide) Io_guard) ?_
      repeat (first | refine zL ?_ | (first | refine zGo ?_ | refine zSk ?_ | refine zUn ?_ | fail) | (first | refine zPT ?_ | refine zPF ?_ | fail) | refine zV (OpVal.add rfl rfl (i64_in _ (by omega))) ?_ | refine zV (OpVal.sub rfl rfl (i64_in _ (by omega))) ?_ | refine zV (OpVal.neBool tab_ok rfl rfl rfl) ?_ | refine zV (OpVal.eqBool tab_ok rfl rfl rfl) ?_ | refine zV (OpVal.eqNil tab_ok rfl rfl rfl) ?_ | refine zV (OpVal.neNil tab_ok rfl rfl rfl) ?_ | fail)
      refine WZ.nil (aG ?_)
      refine aF ?_ (hb := by simp [eqIo_self])
      refine W.draw follows (by decide +kernel) (zG ?_)
      repeat (first | refine zL ?_ | (first | refine zGo ?_ | refine zSk ?_ | refine zUn ?_ | fail) | (first | refine zPT ?_ | refine zPF ?_ | fail) | refine zV (OpVal.add rfl rfl (i64_in _ (by omega))) ?_ | refine zV (OpVal.sub rfl rfl (i64_in _ (by omega))) ?_ | refine zV (OpVal.neBool tab_ok rfl rfl rfl) ?_ | refine zV (OpVal.eqBool tab_ok rfl rfl rfl) ?_ | refine zV (OpVal.eqNil tab_ok rfl rfl rfl) ?_ | refine zV (OpVal.neNil tab_ok rfl rfl rfl) ?_ | fail)
      refine WZ.nil (aG ?_)
      refine aF ?_
      refine aV (OpVal.add rfl rfl (i64_in _ (by omega))) ?_
      refine aR (o := ⟨2 * few.length - (j + 1), by omega, j + 1, by omega, rfl, rfl, rfl⟩)
    · obtain ⟨bB, lB, rfl, mB, sB⟩ := own_at l2.symm oB (i := j - 2 * k) (by omega)
      rw [List.getElem_append_right (by omega)] at sC
      simp only [l1] at sC
      generalize B[j - 2 * k] = x at sB sC
      refine W.draw follows (by decide +kernel) (zG ?_)
      repeat (first | refine zL ?_ | (first | refine zGo ?_ | refine zSk ?_ | refine zUn ?_ | fail) | (first | refine zPT ?_ | refine zPF ?_ | fail) | refine zV (OpVal.add rfl rfl (i64_in _ (by omega))) ?_ | refine zV (OpVal.sub rfl rfl (i64_in _ (by omega))) ?_ | refine zV (OpVal.neBool tab_ok rfl rfl rfl) ?_ | refine zV (OpVal.eqBool tab_ok rfl rfl rfl) ?_ | refine zV (OpVal.eqNil tab_ok rfl rfl rfl) ?_ | refine zV (OpVal.neNil tab_ok rfl rfl rfl) ?_ | fail)
      refine WZ.nil (aG ?_)
      refine aF ?_
      refine W.draw follows (by decide +kernel) (zG ?_)
      repeat (first | refine zL ?_ | (first | refine zGo ?_ | refine zSk ?_ | refine zUn ?_ | fail) | (first | refine zPT ?_ | refine zPF ?_ | fail) | refine zV (OpVal.add rfl rfl (i64_in _ (by omega))) ?_ | refine zV (OpVal.sub rfl rfl (i64_in _ (by omega))) ?_ | refine zV (OpVal.neBool tab_ok rfl rfl rfl) ?_ | refine zV (OpVal.eqBool tab_ok rfl rfl rfl) ?_ | refine zV (OpVal.eqNil tab_ok rfl rfl rfl) ?_ | refine zV (OpVal.neNil tab_ok rfl rfl rfl) ?_ | fail)
      refine zV (OpVal.ixSl tab_ok rfl rfl rfl rfl rfl hlt) ?_
      repeat (first | refine zL ?_ | (first | refine zGo ?_ | refine zSk ?_ | refine zUn ?_ | fail) | (first | refine zPT ?_ | refine zPF ?_ | fail) | refine zV (OpVal.add rfl rfl (i64_in _ (by omega))) ?_ | refine zV (OpVal.sub rfl rfl (i64_in _ (by omega))) ?_ | refine zV (OpVal.neBool tab_ok rfl rfl rfl) ?_ | refine zV (OpVal.eqBool tab_ok rfl rfl rfl) ?_ | refine zV (OpVal.eqNil tab_ok rfl rfl rfl) ?_ | refine zV (OpVal.neNil tab_ok rfl rfl rfl) ?_ | fail)
      refine zV (OpVal.loadN ty_25.1 ty_25.2 rfl (at_in 0 rfl mC) sC) ?_
      repeat (first | refine zL ?_ | (first | refine zGo ?_ | refine zSk ?_ | refine zUn ?_ | fail) | (first | refine zPT ?_ | refine zPF ?_ | fail) | refine zV (OpVal.add rfl rfl (i64_in _ (by omega))) ?_ | refine zV (OpVal.sub rfl rfl (i64_in _ (by omega))) ?_ | refine zV (OpVal.neBool tab_ok rfl rfl rfl) ?_ | refine zV (OpVal.eqBool tab_ok rfl rfl rfl) ?_ | refine zV (OpVal.eqNil tab_ok rfl rfl rfl) ?_ | refine zV (OpVal.neNil tab_ok rfl rfl rfl) ?_ | fail)
      refine zV (OpVal.ixI tab_ok rfl rfl rfl rfl (show (j : Int) - ((2 * k : Nat) : Int) = ((j - 2 * k : Nat) : Int) by omega) (show j - 2 * k < 2 * (few.length - k) by omega)) ?_
      repeat (first | refine zL ?_ | (first | refine zGo ?_ | refine zSk ?_ | refine zUn ?_ | fail) | (first | refine zPT ?_ | refine zPF ?_ | fail) | refine zV (OpVal.add rfl rfl (i64_in _ (by omega))) ?_ | refine zV (OpVal.sub rfl rfl (i64_in _ (by omega))) ?_ | refine zV (OpVal.neBool tab_ok rfl rfl rfl) ?_ | refine zV (OpVal.eqBool tab_ok rfl rfl rfl) ?_ | refine zV (OpVal.eqNil tab_ok rfl rfl rfl) ?_ | refine zV (OpVal.neNil tab_ok rfl rfl rfl) ?_ | fail)
      refine zV (OpVal.loadN ty_25.1 ty_25.2 rfl (at_in 1 rfl mB) sB) ?_
      repeat (first | refine zL ?_ | (first | refine zGo ?_ | refine zSk ?_ | refine zUn ?_ | fail) | (first | refine zPT ?_ | refine zPF ?_ | fail) | refine zV (OpVal.add rfl rfl (i64_in _ (by omega))) ?_ | refine zV (OpVal.sub rfl rfl (i64_in _ (by omega))) ?_ | refine zV (OpVal.neBool tab_ok rfl rfl rfl) ?_ | refine zV (OpVal.eqBool tab_ok rfl rfl rfl) ?_ | refine zV (OpVal.eqNil tab_ok rfl rfl rfl) ?_ | refine zV (OpVal.neNil tab_ok rfl rfl rfl) ?_ | fail)
      refine zV (OpVal.neD (k := 2) rfl rfl (Io_eq x x) (by decide) Io_guard) ?_
      repeat (first | refine zL ?_ | (first | refine zGo ?_ | refine zSk ?_ | refine zUn ?_ | fail) | (first | refine zPT ?_ | refine zPF ?_ | fail) | refine zV (OpVal.add rfl rfl (i64_in _ (by omega))) ?_ | refine zV (OpVal.sub rfl rfl (i64_in _ (by omega))) ?_ | refine zV (OpVal.neBool tab_ok rfl rfl rfl) ?_ | refine zV (OpVal.eqBool tab_ok rfl rfl rfl) ?_ | refine zV (OpVal.eqNil tab_ok rfl rfl rfl) ?_ | refine zV (OpVal.neNil tab_ok rfl rfl rfl) ?_ | fail)
      refine WZ.nil (aG ?_)
      refine aF ?_ (hb := by simp [eqIo_self])
      refine aV (OpVal.add rfl rfl (i64_in _ (by omega))) ?_
      refine aR (o := ⟨2 * few.length - (j + 1), by omega, j + 1, by omega, rfl, rfl, rfl⟩)
  · obtain rfl : j = 2 * few.length := by omega
    refine aF ?_ (hb := by simp)
    refine aC (o := lives_spec) (h := ?_)
    rintro _ _ ⟨rfl, rfl⟩
    refine aG ?_
    refine W.ret (fin _ _ (FinOk.mk' ([]) (.tmp rfl .nil) (by repeat (first | exact Sel.nil | (apply Sel.cons; (repeat (first | exact Pick.here | apply Pick.there))))) rfl ?_))
    exact ⟨rfl, rfl⟩
/-- Stores ahead of what is loaded and ahead of the Barrier, both sectors by K. -/
def RowOk (xs : List Io) (m : Nat) : Prop := ∀ i (h : i < xs.length), (xs[i].1 = 2 ↔ i < m) ∧ (xs[i].1 = 3 → i = xs.length - 1 ∧ xs[i].2.1 = 0 ∧ xs[i].2.2 = 0) ∧ (xs[i].1 ≠ 3 → xs[i].2.2 = ((i % 2 : Nat) : Int))
theorem rowOk_flush (ps : List Int) : RowOk (planFlush ps) (2 * ps.length) := by
  intro i h
  rw [planFlush_len] at h
  have hl := pages_len 2 ps
  by_cases hi : i < 2 * ps.length
  · have h1 := pages_at 2 ps i (by omega)
    have h2 : (planFlush ps)[i]? = (pages 2 ps)[i]? := List.getElem?_append_left (by omega)
    have h3 : (planFlush ps)[i]? = some (planFlush ps)[i] := List.getElem?_eq_getElem _
    rw [h1, h3] at h2
    have h4 := Option.some.inj h2
    rw [h4]
    exact ⟨by simp [hi], fun h => by simp at h, fun _ => rfl⟩
  · have h2 : (planFlush ps)[i]? = some (3, 0, 0) := by
      rw [planFlush, List.getElem?_append_right (by omega), show i - (pages 2 ps).length = 0 by omega]
      rfl
    have h3 : (planFlush ps)[i]? = some (planFlush ps)[i] := List.getElem?_eq_getElem _
    rw [h3] at h2
    have h4 := Option.some.inj h2
    rw [h4, planFlush_len]
    exact ⟨⟨fun h => by simp at h, fun h => by omega⟩, fun _ => ⟨by omega, rfl, rfl⟩, fun h => by simp at h⟩
theorem rowOk_fetch (page old : Int) (dirty : Bool) : RowOk (planFetch page dirty old) (if dirty = true then 2 else 0) := by
  cases dirty with
  | true =>
    intro i h
    have h' : i < 4 := h
    obtain rfl | rfl | rfl | rfl : i = 0 ∨ i = 1 ∨ i = 2 ∨ i = 3 := by omega
    all_goals exact ⟨by simp [planFetch, pages, both], by simp [planFetch, pages, both], by simp [planFetch, pages, both]⟩
  | false =>
    intro i h
    have h' : i < 2 := h
    obtain rfl | rfl : i = 0 ∨ i = 1 := by omega
    all_goals exact ⟨by simp [planFetch, pages, both], by simp [planFetch, pages, both], by simp [planFetch, pages, both]⟩
theorem PlanRow_spec (xs : List Int) (a : Option Addr) (cap : Nat) (hcap : xs.length ≤ cap) (ro : HL) (hro : RoSl 1 (ints xs) a xs.length ro) (page old : Int) :
    Ctr Tryd.prog 6 [.slice a xs.length cap, .int .i64 page, .int .i64 old] [] ro (fun v L' => v = .bool true ∧ L' = []) := by
  have hmin : (if (6 : Int) < (xs.length : Int) then (6 : Int) else (xs.length : Int)) = (((xs.take (min xs.length 6)).length : Nat) : Int) := by rw [List.length_take]; split <;> omega
  have hro2 := front_min (cap := cap) (m := 6) hro
  have hf6 : (xs.take (min xs.length 6)).length ≤ 6 := by rw [List.length_take]; omega
  have hfc : (xs.take (min xs.length 6)).length ≤ cap := by rw [List.length_take]; omega
  generalize xs.take (min xs.length 6) = few at hmin hro2 hf6 hfc
  have s1 := PFlush_spec few (by omega) a cap ro hro2
  have s2 := PFetch_spec page old true
  have s3 := PFetch_spec page old false
  have l1 : (planFlush few).length ≤ 100 := by rw [planFlush_len]; omega
  have l2 : (planFetch page true old).length ≤ 100 := Nat.le_of_ble_eq_true rfl
  have l3 : (planFetch page false old).length ≤ 100 := Nat.le_of_ble_eq_true rfl
  have r1 := rowOk_flush few
  have r2 := rowOk_fetch page old true
  have r3 := rowOk_fetch page old false
  generalize 2 * few.length = m1 at r1
  generalize (if true = true then 2 else 0) = m2 at r2
  generalize (if false = true then 2 else 0) = m3 at r3
  generalize planFlush few = A at s1 l1 r1
  generalize planFetch page true old = B at s2 l2 r2
  generalize planFetch page false old = C at s3 l3 r3
  refine Ctr.enter (n := 92) [.tmp 6] [(0, _), (1, _), (2, _)] Tryd.func6 rfl rfl rfl (lb rfl) Tryd.call6 ⟨rfl, rfl, rfl, trivial⟩ ?_
  intro cx fin fin0
  refine aG ?_
  refine aV (OpVal.min2 rfl rfl) ?_
  refine aV (OpVal.front tab_ok rfl rfl rfl rfl hmin hfc) ?_
  refine aC (o := s1) (h := ?_)
  rintro _ _ ⟨adA, cA, HA, rfl, rfl, oA⟩
  refine aG ?_
  refine aC (o := s2) (h := ?_)
  rintro _ _ ⟨adB, cB, HB, rfl, rfl, oB⟩
  refine aG ?_
  refine aC (o := s3) (h := ?_)
  rintro _ _ ⟨adC, cC, HC, rfl, rfl, oC⟩
  refine aG ?_
  refine aSl (ps := [_, _, _]) ?_
  intro bt
  refine aG ?_
  refine aLp (fun m ρ1 L1 => ∃ i : Nat, i ≤ 3 ∧ m = 3 - i ∧ ρ1 = [(8, .int .i64 (i : Int)), (7, .slice (some ⟨bt, 0, none⟩) 3 3)] ∧ L1 = [[(bt, .cells #[.slice adA A.length cA, .slice adB B.length cB, .slice adC C.length cC] 31 (0, 0))], HC, HB, HA]) (o := ⟨0, by omega, rfl, rfl, rfl⟩) (h := ?_)
  rintro m ρ1 L1 ⟨i, hi, rfl, rfl, rfl⟩
  refine aG ?_
  by_cases hi3 : i < 3
  · refine aT ?_
    have hx : ∃ (X : List Io) (aX : Option Addr) (cX mX : Nat) (HX : HL) (q : Nat), ([.slice adA A.length cA, .slice adB B.length cB, .slice adC C.length cC] : List Value)[i]? = some (.slice aX X.length cX) ∧ X.length ≤ 100 ∧ RowOk X mX ∧ Own 3 25 (ios X) aX X.length cX HX ∧
        ([HC, HB, HA] : List HL)[q]? = some HX := by
      obtain rfl | rfl | rfl : i = 0 ∨ i = 1 ∨ i = 2 := by omega
      · exact ⟨A, adA, cA, m1, HA, 2, rfl, l1, r1, oA, rfl⟩
      · exact ⟨B, adB, cB, m2, HB, 1, rfl, l2, r2, oB, rfl⟩
      · exact ⟨C, adC, cC, m3, HC, 0, rfl, l3, r3, oC, rfl⟩
    obtain ⟨X, aX, cX, mX, HX, q, hv, hl, hr, ho, hq⟩ := hx
    have hv' : ([.slice adA A.length cA, .slice adB B.length cB, .slice adC C.length cC] : List Value)[0 + i * 1]? = some (.slice aX X.length cX) := by rw [← hv]; simp
    have hAt : ∀ {R : HL} {c : HL} {b : Nat} {o : Obj}, (b, o) ∈ HX → At R [c, HC, HB, HA] b o := fun h => at_in (q + 1) (by rw [List.getElem?_cons_succ]; exact hq) h
    refine aLp (fun m ρ1 L1 => ∃ (j : Nat) (st : Bool), st = decide (j ≤ mX) ∧ j ≤ X.length ∧ m = X.length - j ∧ ρ1 = [(10, .int .i64 (j : Int)), (9, .bool st), (8, .int .i64 (i : Int)), (7, .slice (some ⟨bt, 0, none⟩) 3 3)] ∧ L1 = [[(bt, .cells #[.slice adA A.length cA, .slice adB B.length cB, .slice adC C.length cC] 31 (0, 0))], HC, HB, HA]) (o := ⟨0, true, by simp, by omega, rfl, rfl, rfl⟩) (h := ?_)
    rintro m ρ1 L1 ⟨j, st, hst, hj, rfl, rfl, rfl⟩
    refine aG ?_
    refine aV (OpVal.ixSl tab_ok rfl rfl rfl rfl rfl hi3) ?_
    refine aV (OpVal.load tab_ok rfl (at_own 0 rfl) hv') ?_
    by_cases hjl : j < X.length
    · refine aT ?_
      obtain ⟨bX, lX, rfl, hmem, hseg⟩ := own_at rfl ho hjl
      have hR := hr j hjl
      generalize X[j] = x at hseg hR
      obtain ⟨xk, xp, xq⟩ := x
      simp only at hR
      refine aV (OpVal.ixSl tab_ok rfl rfl rfl rfl rfl hi3) ?_
      refine aV (OpVal.load tab_ok rfl (at_own 0 rfl) hv') ?_
      refine aV (OpVal.ixSl tab_ok rfl rfl rfl rfl rfl hjl) ?_
      refine aV (OpVal.loadN ty_25.1 ty_25.2 rfl (hAt hmem) hseg) ?_
      repeat (first | refine aL ?_ | refine aS ?_ | (refine aN ?_; intro _; refine aG ?_) | (refine aB ?_; intro _; refine aG ?_))
      by_cases hk2 : xk = 2
      · have hjm : j < mX := hR.1.1 hk2
        have hk3 : xk ≠ 3 := by omega
        have hq2 := hR.2.2 hk3
        have hst2 : st = true := by rw [hst]; simp; omega
        subst hst2 hk2 hq2
        repeat (first | refine aL ?_ | refine aS ?_ | (refine aN ?_; intro _; refine aG ?_) | (refine aB ?_; intro _; refine aG ?_) | (refine W.isGuard ?_; first | refine aGo ?_ | refine aSk ?_ | refine aUn ?_) | (refine W.isPick ?_; first | refine aPT ?_ | refine aPF ?_) | (refine W.isBin ?_; first | refine aV (OpVal.neBool tab_ok rfl rfl rfl) ?_ | refine aV (OpVal.eqBool tab_ok rfl rfl rfl) ?_ | refine aV (OpVal.eqNil tab_ok rfl rfl rfl) ?_ | refine aV (OpVal.neNil tab_ok rfl rfl rfl) ?_ | refine aV (OpVal.add rfl rfl (i64_in _ (by omega))) ?_ | refine aV (OpVal.sub rfl rfl (i64_in _ (by omega))) ?_) | (refine W.isCond ?_; first | refine aT ?_ | refine aF ?_) | fail)
        refine aV (OpVal.rem rfl rfl (by decide) (r := ((j % 2 : Nat) : Int)) rfl) ?_
        repeat (first | refine aL ?_ | refine aS ?_ | (refine aN ?_; intro _; refine aG ?_) | (refine aB ?_; intro _; refine aG ?_) | (refine W.isGuard ?_; first | refine aGo ?_ | refine aSk ?_ | refine aUn ?_) | (refine W.isPick ?_; first | refine aPT ?_ | refine aPF ?_) | (refine W.isBin ?_; first | refine aV (OpVal.neBool tab_ok rfl rfl rfl) ?_ | refine aV (OpVal.eqBool tab_ok rfl rfl rfl) ?_ | refine aV (OpVal.eqNil tab_ok rfl rfl rfl) ?_ | refine aV (OpVal.neNil tab_ok rfl rfl rfl) ?_ | refine aV (OpVal.add rfl rfl (i64_in _ (by omega))) ?_ | refine aV (OpVal.sub rfl rfl (i64_in _ (by omega))) ?_) | (refine W.isCond ?_; first | refine aT ?_ | refine aF ?_) | fail)
        refine aR (o := ⟨X.length - (j + 1), by omega, j + 1, _, by simp; omega, by omega, rfl, rfl, rfl⟩)
      · have hjm : ¬ j < mX := fun h => hk2 (hR.1.2 h)
        by_cases hk3 : xk = 3
        · obtain ⟨hj1, rfl, rfl⟩ := hR.2.1 hk3
          subst hk3
          cases st
          all_goals
            repeat (first | refine aL ?_ | refine aS ?_ | (refine aN ?_; intro _; refine aG ?_) | (refine aB ?_; intro _; refine aG ?_) | (refine W.isGuard ?_; first | refine aGo ?_ | refine aSk ?_ | refine aUn ?_) | (refine W.isPick ?_; first | refine aPT ?_ | refine aPF ?_) | (refine W.isBin ?_; first | refine aV (OpVal.neBool tab_ok rfl rfl rfl) ?_ | refine aV (OpVal.eqBool tab_ok rfl rfl rfl) ?_ | refine aV (OpVal.eqNil tab_ok rfl rfl rfl) ?_ | refine aV (OpVal.neNil tab_ok rfl rfl rfl) ?_ | refine aV (OpVal.add rfl rfl (i64_in _ (by omega))) ?_ | refine aV (OpVal.sub rfl rfl (i64_in _ (by omega))) ?_) | (refine W.isCond ?_; first | refine aT ?_ | refine aF ?_) | fail)
            refine aV (OpVal.ixSl tab_ok rfl rfl rfl rfl rfl hi3) ?_
            repeat (first | refine aL ?_ | refine aS ?_ | (refine aN ?_; intro _; refine aG ?_) | (refine aB ?_; intro _; refine aG ?_) | (refine W.isGuard ?_; first | refine aGo ?_ | refine aSk ?_ | refine aUn ?_) | (refine W.isPick ?_; first | refine aPT ?_ | refine aPF ?_) | (refine W.isBin ?_; first | refine aV (OpVal.neBool tab_ok rfl rfl rfl) ?_ | refine aV (OpVal.eqBool tab_ok rfl rfl rfl) ?_ | refine aV (OpVal.eqNil tab_ok rfl rfl rfl) ?_ | refine aV (OpVal.neNil tab_ok rfl rfl rfl) ?_ | refine aV (OpVal.add rfl rfl (i64_in _ (by omega))) ?_ | refine aV (OpVal.sub rfl rfl (i64_in _ (by omega))) ?_) | (refine W.isCond ?_; first | refine aT ?_ | refine aF ?_) | fail)
            refine aV (OpVal.load tab_ok rfl (at_own 1 rfl) hv') ?_
            repeat (first | refine aL ?_ | refine aS ?_ | (refine aN ?_; intro _; refine aG ?_) | (refine aB ?_; intro _; refine aG ?_) | (refine W.isGuard ?_; first | refine aGo ?_ | refine aSk ?_ | refine aUn ?_) | (refine W.isPick ?_; first | refine aPT ?_ | refine aPF ?_) | (refine W.isBin ?_; first | refine aV (OpVal.neBool tab_ok rfl rfl rfl) ?_ | refine aV (OpVal.eqBool tab_ok rfl rfl rfl) ?_ | refine aV (OpVal.eqNil tab_ok rfl rfl rfl) ?_ | refine aV (OpVal.neNil tab_ok rfl rfl rfl) ?_ | refine aV (OpVal.add rfl rfl (i64_in _ (by omega))) ?_ | refine aV (OpVal.sub rfl rfl (i64_in _ (by omega))) ?_) | (refine W.isCond ?_; first | refine aT ?_ | refine aF ?_) | fail)
            refine aR (o := ⟨X.length - (j + 1), by omega, j + 1, _, by simp; omega, by omega, rfl, rfl, rfl⟩)
        · have hq2 := hR.2.2 hk3
          subst hq2
          cases st
          all_goals
            repeat (first | refine aL ?_ | refine aS ?_ | (refine aN ?_; intro _; refine aG ?_) | (refine aB ?_; intro _; refine aG ?_) | (refine W.isGuard ?_; first | refine aGo ?_ | refine aSk ?_ | refine aUn ?_ | refine aGo ?_ (hw := by first | (simp [hk2, hk3]; done) | omega) | refine aSk ?_ (hw := by first | (simp [hk2, hk3]; done) | omega)) | (refine W.isPick ?_; first | refine aPT ?_ | refine aPF ?_ | refine aPT ?_ (hb := by first | (simp [hk2, hk3]; done) | omega) | refine aPF ?_ (hb := by first | (simp [hk2, hk3]; done) | omega)) | (refine W.isBin ?_; first | refine aV (OpVal.neBool tab_ok rfl rfl rfl) ?_ | refine aV (OpVal.eqBool tab_ok rfl rfl rfl) ?_ | refine aV (OpVal.eqNil tab_ok rfl rfl rfl) ?_ | refine aV (OpVal.neNil tab_ok rfl rfl rfl) ?_ | refine aV (OpVal.add rfl rfl (i64_in _ (by omega))) ?_ | refine aV (OpVal.sub rfl rfl (i64_in _ (by omega))) ?_) | (refine W.isCond ?_; first | refine aT ?_ | refine aF ?_ | refine aT ?_ (hb := by first | (simp [hk2, hk3]; done) | omega) | refine aF ?_ (hb := by first | (simp [hk2, hk3]; done) | omega)) | fail)
            refine aV (OpVal.rem rfl rfl (by decide) (r := ((j % 2 : Nat) : Int)) rfl) ?_
            repeat (first | refine aL ?_ | refine aS ?_ | (refine aN ?_; intro _; refine aG ?_) | (refine aB ?_; intro _; refine aG ?_) | (refine W.isGuard ?_; first | refine aGo ?_ | refine aSk ?_ | refine aUn ?_ | refine aGo ?_ (hw := by first | (simp [hk2, hk3]; done) | omega) | refine aSk ?_ (hw := by first | (simp [hk2, hk3]; done) | omega)) | (refine W.isPick ?_; first | refine aPT ?_ | refine aPF ?_ | refine aPT ?_ (hb := by first | (simp [hk2, hk3]; done) | omega) | refine aPF ?_ (hb := by first | (simp [hk2, hk3]; done) | omega)) | (refine W.isBin ?_; first | refine aV (OpVal.neBool tab_ok rfl rfl rfl) ?_ | refine aV (OpVal.eqBool tab_ok rfl rfl rfl) ?_ | refine aV (OpVal.eqNil tab_ok rfl rfl rfl) ?_ | refine aV (OpVal.neNil tab_ok rfl rfl rfl) ?_ | refine aV (OpVal.add rfl rfl (i64_in _ (by omega))) ?_ | refine aV (OpVal.sub rfl rfl (i64_in _ (by omega))) ?_) | (refine W.isCond ?_; first | refine aT ?_ | refine aF ?_ | refine aT ?_ (hb := by first | (simp [hk2, hk3]; done) | omega) | refine aF ?_ (hb := by first | (simp [hk2, hk3]; done) | omega)) | fail)
            refine aR (o := ⟨X.length - (j + 1), by omega, j + 1, _, by simp [hk2]; omega, by omega, rfl, rfl, rfl⟩)
    · obtain rfl : j = X.length := by omega
      refine aF ?_
      refine aV (OpVal.add rfl rfl (i64_in _ (by omega))) ?_
      refine aR (o := ⟨3 - (i + 1), by omega, i + 1, by omega, rfl, rfl, rfl⟩)
  · obtain rfl : i = 3 := by omega
    refine aF ?_
    refine aC (o := lives_spec) (h := ?_)
    rintro _ _ ⟨rfl, rfl⟩
    refine aG ?_
    refine W.ret (fin _ _ (FinOk.mk' ([]) (.tmp rfl .nil) (by repeat (first | exact Sel.nil | (apply Sel.cons; (repeat (first | exact Pick.here | apply Pick.there))))) rfl ?_))
    exact ⟨rfl, rfl⟩
def ramp (n : Nat) : List Int := (List.range n).map Int.ofNat
theorem ramp_next (n : Nat) : ramp (n + 1) = ramp n ++ [(n : Int)] := by simp [ramp, List.range_succ]
theorem PlanMost_spec (quota n : Int) (hq : i64s quota) (hn : i64s n) : Ctr Tryd.prog 7 [.int .i64 quota, .int .i64 n] [] [] (fun v L' => v = .bool true ∧ L' = []) := by
  have r1 := around_range quota 64 (by decide)
  have A1 := Around_spec quota 64 hq (by decide)
  generalize around quota 64 = q0 at r1 A1
  have r2 := around_range n (1 + q0 + 1) (by omega)
  have A2 := Around_spec n (1 + q0 + 1) hn (by omega)
  generalize around n (1 + q0 + 1) = k0 at r2 A2
  obtain ⟨q, hqq⟩ : ∃ q : Nat, 1 + q0 = (q : Int) := ⟨(1 + q0).toNat, by omega⟩
  obtain ⟨k, rfl⟩ : ∃ k : Nat, k0 = (k : Int) := ⟨k0.toNat, by omega⟩
  have hM := Most_spec (q : Int) (by omega) (by omega)
  have hF : Ctr Tryd.prog 16 [.int .i64 1, .bool true, .int .i64 2] [] [] (fun v L' => ∃ a cap H, v = .slice a 4 cap ∧ L' = [H] ∧ Own 3 25 (ios [(2, 2, 0), (2, 2, 1), (1, 1, 0), (1, 1, 1)]) a 4 cap H) := PFetch_spec 1 2 true
  refine Ctr.enter (n := 65) [.tmp 4] [(0, _), (1, _)] Tryd.func7 rfl rfl rfl (lb rfl) Tryd.call7 ⟨rfl, rfl, trivial⟩ ?_
  intro cx fin fin0
  refine aG ?_
  refine aC (o := A1) (h := ?_)
  rintro _ _ ⟨rfl, rfl⟩
  refine aG ?_
  refine aV (OpVal.add rfl rfl (i64_in _ (by omega))) ?_
  rw [hqq]
  rw [hqq] at A2 r2
  refine aV (OpVal.add rfl rfl (i64_in _ (by omega))) ?_
  refine aC (o := A2) (h := ?_)
  rintro _ _ ⟨rfl, rfl⟩
  refine aG ?_
  refine W.nilChunk ?_
  refine aLp (fun m ρ1 L1 => ∃ (j : Nat) (a : Option Addr) (cap : Nat) (H : HL), j ≤ q ∧ Own 1 3 (ints (ramp j)) a j cap H ∧ m = q - j ∧ ρ1 = [(8, .int .i64 (j : Int)), (7, .slice a j cap), (6, .int .i64 (k : Int)), (5, .int .i64 (q : Int))] ∧ L1 = [H]) (o := ⟨0, none, 0, [], by omega, Own.nil 1 _, rfl, rfl, rfl⟩) (h := ?_)
  rintro m ρ1 L1 ⟨j, a, cap, H, hj, hown, rfl, rfl, rfl⟩
  refine aG ?_
  by_cases hlt : j < q
  · refine aT ?_
    refine aSl (ps := [_]) ?_
    intro bt
    refine aG ?_
    refine aAp (hown) ?_
    rintro _ _ ⟨_, _, _, rfl, rfl, ho⟩
    refine aG ?_
    refine aV (OpVal.add rfl rfl (i64_in _ (by omega))) ?_
    have ho' : Own 1 3 (ints (ramp j) ++ ints [(j : Int)]) _ _ _ _ := ho
    have e : ints (ramp j) ++ ints [(j : Int)] = ints (ramp (j + 1)) := by rw [ramp_next]; simp [ints]
    rw [e] at ho'
    refine aR (o := ⟨q - (j + 1), by omega, j + 1, _, _, _, by omega, ho', rfl, rfl, rfl⟩)
  · obtain rfl : j = q := by omega
    refine aF ?_
    generalize hl : ramp j = l at hown
    have hll : l.length = j := by rw [← hl]; simp [ramp]
    have hk : (l.take k).length = k := by rw [List.length_take]; omega
    have ro := Own.roSl hown
    have hcap : j ≤ cap := by rcases hown.2 with ⟨_, h1, h2, _⟩ | ⟨_, _, _, _, h, _⟩ <;> omega
    subst hll
    have F1 := PFlush_spec l (by omega) a cap H ro
    have F2 := PFlush_spec (l.take k) (by omega) a cap H (by rw [hk]; exact RoSl.take (f := fun x => [Value.int .i64 x]) (fun _ => rfl) ro k (by omega))
    rw [planFlush_len] at F1 F2
    rw [hk] at F2
    refine aC (o := hM) (h := ?_)
    rintro _ _ ⟨rfl, rfl⟩
    refine aG ?_
    refine aV (OpVal.mul rfl rfl (i64_in _ (by omega))) ?_
    refine aV (OpVal.add rfl rfl (i64_in _ (by omega))) ?_
    refine aV (OpVal.max2 rfl rfl) ?_
    have e1 : (if (4 : Int) < 2 * (l.length : Int) + 1 then 2 * (l.length : Int) + 1 else 4) = max 4 (2 * (l.length : Int) + 1) := by split <;> omega
    rw [e1]
    repeat (first | refine aL ?_ | refine aS ?_ | (refine aN ?_; intro _; refine aG ?_) | (refine aB ?_; intro _; refine aG ?_) | (refine W.isGuard ?_; first | refine aGo ?_ | refine aSk ?_ | refine aUn ?_) | (refine W.isPick ?_; first | refine aPT ?_ | refine aPF ?_) | (refine W.isBin ?_; first | refine aV (OpVal.neBool tab_ok rfl rfl rfl) ?_ | refine aV (OpVal.eqBool tab_ok rfl rfl rfl) ?_ | refine aV (OpVal.eqNil tab_ok rfl rfl rfl) ?_ | refine aV (OpVal.neNil tab_ok rfl rfl rfl) ?_ | refine aV (OpVal.add rfl rfl (i64_in _ (by omega))) ?_ | refine aV (OpVal.sub rfl rfl (i64_in _ (by omega))) ?_) | (refine W.isCond ?_; first | refine aT ?_ | refine aF ?_) | fail)
    refine aV (OpVal.front tab_ok rfl rfl rfl rfl rfl (show k ≤ cap by omega)) ?_
    repeat (first | refine aL ?_ | refine aS ?_ | (refine aN ?_; intro _; refine aG ?_) | (refine aB ?_; intro _; refine aG ?_) | (refine W.isGuard ?_; first | refine aGo ?_ | refine aSk ?_ | refine aUn ?_) | (refine W.isPick ?_; first | refine aPT ?_ | refine aPF ?_) | (refine W.isBin ?_; first | refine aV (OpVal.neBool tab_ok rfl rfl rfl) ?_ | refine aV (OpVal.eqBool tab_ok rfl rfl rfl) ?_ | refine aV (OpVal.eqNil tab_ok rfl rfl rfl) ?_ | refine aV (OpVal.neNil tab_ok rfl rfl rfl) ?_ | refine aV (OpVal.add rfl rfl (i64_in _ (by omega))) ?_ | refine aV (OpVal.sub rfl rfl (i64_in _ (by omega))) ?_) | (refine W.isCond ?_; first | refine aT ?_ | refine aF ?_) | fail)
    refine aC (o := F2) (h := ?_)
    rintro _ _ ⟨aa, ca, Ha, rfl, rfl, oa⟩
    refine aG ?_
    repeat (first | refine aL ?_ | refine aS ?_ | (refine aN ?_; intro _; refine aG ?_) | (refine aB ?_; intro _; refine aG ?_) | (refine W.isGuard ?_; first | refine aGo ?_ | refine aSk ?_ | refine aUn ?_) | (refine W.isPick ?_; first | refine aPT ?_ | refine aPF ?_) | (refine W.isBin ?_; first | refine aV (OpVal.neBool tab_ok rfl rfl rfl) ?_ | refine aV (OpVal.eqBool tab_ok rfl rfl rfl) ?_ | refine aV (OpVal.eqNil tab_ok rfl rfl rfl) ?_ | refine aV (OpVal.neNil tab_ok rfl rfl rfl) ?_ | refine aV (OpVal.add rfl rfl (i64_in _ (by omega))) ?_ | refine aV (OpVal.sub rfl rfl (i64_in _ (by omega))) ?_) | (refine W.isCond ?_; first | refine aT ?_ | refine aF ?_) | fail)
    refine aC (o := hF) (h := ?_)
    rintro _ _ ⟨ab, cb, Hb, rfl, rfl, ob⟩
    refine aG ?_
    repeat (first | refine aL ?_ | refine aS ?_ | (refine aN ?_; intro _; refine aG ?_) | (refine aB ?_; intro _; refine aG ?_) | (refine W.isGuard ?_; first | refine aGo ?_ | refine aSk ?_ | refine aUn ?_) | (refine W.isPick ?_; first | refine aPT ?_ | refine aPF ?_) | (refine W.isBin ?_; first | refine aV (OpVal.neBool tab_ok rfl rfl rfl) ?_ | refine aV (OpVal.eqBool tab_ok rfl rfl rfl) ?_ | refine aV (OpVal.eqNil tab_ok rfl rfl rfl) ?_ | refine aV (OpVal.neNil tab_ok rfl rfl rfl) ?_ | refine aV (OpVal.add rfl rfl (i64_in _ (by omega))) ?_ | refine aV (OpVal.sub rfl rfl (i64_in _ (by omega))) ?_) | (refine W.isCond ?_; first | refine aT ?_ | refine aF ?_) | fail)
    refine aC (o := F1) (h := ?_)
    rintro _ _ ⟨ac, cc, Hc, rfl, rfl, oc⟩
    refine aG ?_
    repeat (first | refine aL ?_ | refine aS ?_ | (refine aN ?_; intro _; refine aG ?_) | (refine aB ?_; intro _; refine aG ?_) | (refine W.isGuard ?_; first | refine aGo ?_ | refine aSk ?_ | refine aUn ?_) | (refine W.isPick ?_; first | refine aPT ?_ | refine aPF ?_) | (refine W.isBin ?_; first | refine aV (OpVal.neBool tab_ok rfl rfl rfl) ?_ | refine aV (OpVal.eqBool tab_ok rfl rfl rfl) ?_ | refine aV (OpVal.eqNil tab_ok rfl rfl rfl) ?_ | refine aV (OpVal.neNil tab_ok rfl rfl rfl) ?_ | refine aV (OpVal.add rfl rfl (i64_in _ (by omega))) ?_ | refine aV (OpVal.sub rfl rfl (i64_in _ (by omega))) ?_) | (refine W.isCond ?_; first | refine aT ?_ | refine aF ?_) | fail)
    by_cases h2 : 2 ≤ l.length
    · repeat (first | refine aL ?_ | refine aS ?_ | (refine aN ?_; intro _; refine aG ?_) | (refine aB ?_; intro _; refine aG ?_) | (refine W.isGuard ?_; first | refine aGo ?_ | refine aSk ?_ | refine aUn ?_) | (refine W.isPick ?_; first | refine aPT ?_ | refine aPF ?_) | (refine W.isBin ?_; first | refine aV (OpVal.neBool tab_ok rfl rfl rfl) ?_ | refine aV (OpVal.eqBool tab_ok rfl rfl rfl) ?_ | refine aV (OpVal.eqNil tab_ok rfl rfl rfl) ?_ | refine aV (OpVal.neNil tab_ok rfl rfl rfl) ?_ | refine aV (OpVal.add rfl rfl (i64_in _ (by omega))) ?_ | refine aV (OpVal.sub rfl rfl (i64_in _ (by omega))) ?_) | (refine W.isCond ?_; first | refine aT ?_ | refine aF ?_) | fail)
      refine aC (o := lives_spec) (h := ?_)
      rintro _ _ ⟨rfl, rfl⟩
      refine aG ?_
      repeat (first | refine aL ?_ | refine aS ?_ | (refine aN ?_; intro _; refine aG ?_) | (refine aB ?_; intro _; refine aG ?_) | (refine W.isGuard ?_; first | refine aGo ?_ | refine aSk ?_ | refine aUn ?_) | (refine W.isPick ?_; first | refine aPT ?_ | refine aPF ?_) | (refine W.isBin ?_; first | refine aV (OpVal.neBool tab_ok rfl rfl rfl) ?_ | refine aV (OpVal.eqBool tab_ok rfl rfl rfl) ?_ | refine aV (OpVal.eqNil tab_ok rfl rfl rfl) ?_ | refine aV (OpVal.neNil tab_ok rfl rfl rfl) ?_ | refine aV (OpVal.add rfl rfl (i64_in _ (by omega))) ?_ | refine aV (OpVal.sub rfl rfl (i64_in _ (by omega))) ?_) | (refine W.isCond ?_; first | refine aT ?_ | refine aF ?_) | fail)
      refine W.ret (fin _ _ (FinOk.mk' ([]) (.tmp rfl .nil) (by repeat (first | exact Sel.nil | (apply Sel.cons; (repeat (first | exact Pick.here | apply Pick.there))))) rfl ?_))
      exact ⟨rfl, rfl⟩
    · repeat (first | refine aL ?_ | refine aS ?_ | (refine aN ?_; intro _; refine aG ?_) | (refine aB ?_; intro _; refine aG ?_) | (refine W.isGuard ?_; first | refine aGo ?_ | refine aSk ?_ | refine aUn ?_) | (refine W.isPick ?_; first | refine aPT ?_ | refine aPF ?_) | (refine W.isBin ?_; first | refine aV (OpVal.neBool tab_ok rfl rfl rfl) ?_ | refine aV (OpVal.eqBool tab_ok rfl rfl rfl) ?_ | refine aV (OpVal.eqNil tab_ok rfl rfl rfl) ?_ | refine aV (OpVal.neNil tab_ok rfl rfl rfl) ?_ | refine aV (OpVal.add rfl rfl (i64_in _ (by omega))) ?_ | refine aV (OpVal.sub rfl rfl (i64_in _ (by omega))) ?_) | (refine W.isCond ?_; first | refine aT ?_ | refine aF ?_) | fail)
      refine aC (o := hF) (h := ?_)
      rintro _ _ ⟨ad, cd, Hd, rfl, rfl, od⟩
      refine aG ?_
      repeat (first | refine aL ?_ | refine aS ?_ | (refine aN ?_; intro _; refine aG ?_) | (refine aB ?_; intro _; refine aG ?_) | (refine W.isGuard ?_; first | refine aGo ?_ | refine aSk ?_ | refine aUn ?_) | (refine W.isPick ?_; first | refine aPT ?_ | refine aPF ?_) | (refine W.isBin ?_; first | refine aV (OpVal.neBool tab_ok rfl rfl rfl) ?_ | refine aV (OpVal.eqBool tab_ok rfl rfl rfl) ?_ | refine aV (OpVal.eqNil tab_ok rfl rfl rfl) ?_ | refine aV (OpVal.neNil tab_ok rfl rfl rfl) ?_ | refine aV (OpVal.add rfl rfl (i64_in _ (by omega))) ?_ | refine aV (OpVal.sub rfl rfl (i64_in _ (by omega))) ?_) | (refine W.isCond ?_; first | refine aT ?_ | refine aF ?_) | fail)
      refine aC (o := lives_spec) (h := ?_)
      rintro _ _ ⟨rfl, rfl⟩
      refine aG ?_
      repeat (first | refine aL ?_ | refine aS ?_ | (refine aN ?_; intro _; refine aG ?_) | (refine aB ?_; intro _; refine aG ?_) | (refine W.isGuard ?_; first | refine aGo ?_ | refine aSk ?_ | refine aUn ?_) | (refine W.isPick ?_; first | refine aPT ?_ | refine aPF ?_) | (refine W.isBin ?_; first | refine aV (OpVal.neBool tab_ok rfl rfl rfl) ?_ | refine aV (OpVal.eqBool tab_ok rfl rfl rfl) ?_ | refine aV (OpVal.eqNil tab_ok rfl rfl rfl) ?_ | refine aV (OpVal.neNil tab_ok rfl rfl rfl) ?_ | refine aV (OpVal.add rfl rfl (i64_in _ (by omega))) ?_ | refine aV (OpVal.sub rfl rfl (i64_in _ (by omega))) ?_) | (refine W.isCond ?_; first | refine aT ?_ | refine aF ?_) | fail)
      refine W.ret (fin _ _ (FinOk.mk' ([]) (.tmp rfl .nil) (by repeat (first | exact Sel.nil | (apply Sel.cons; (repeat (first | exact Pick.here | apply Pick.there))))) rfl ?_))
      exact ⟨rfl, rfl⟩
end Go.Proofs.YtgipjpiiomgjjaaDoor
