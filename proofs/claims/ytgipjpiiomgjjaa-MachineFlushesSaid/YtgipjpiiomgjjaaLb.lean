/-
  Plans: the document's steps; are steps the document's?
-/
import Derived.Test.YtgipjpiiomgjjaaLa
import Derived.Test.YtgipjpiiomgjjaaEd
namespace Go.Proofs.Ytgipjpiiomgjjaa
open Go Go.Sl Go.IntWalk
set_option maxHeartbeats 4000000
set_option maxRecDepth 20000
theorem RPages_spec (k : Int) (ps : List Int) (hn : ps.length ≤ 1000) (a0 : Option Addr) (cap0 : Nat) (ro : HL) (hro : RoSl 1 (ints ps) a0 ps.length ro) :
    Ctr Try.prog 78 [.int .i64 k, .slice a0 ps.length cap0] [] ro (fun v L' => ∃ a cap H, v = .slice a (2 * ps.length) cap ∧ L' = [H] ∧ Own 3 102 (ios (pages k ps)) a (2 * ps.length) cap H) := by
  have hpl := pages_len k ps
  refine Ctr.enter (n := 27) [.tmp 4] [(0, _), (1, _)] Try.func78 rfl rfl rfl (lb rfl) Try.call78 ⟨rfl, rfl, trivial⟩ ?_
  intro cx fin fin0
  refine aG ?_
  refine W.nilChunk ?_
  refine aLp (fun m ρ1 L1 => ∃ (j : Nat) (a : Option Addr) (cap : Nat) (H : HL), j ≤ 2 * ps.length ∧ Own 3 102 (ios ((pages k ps).take j)) a j cap H ∧ m = 2 * ps.length - j ∧ ρ1 = [(6, .int .i64 (j : Int)), (5, .slice a j cap), (0, .int .i64 k), (1, .slice a0 ps.length cap0)] ∧ L1 = [H]) (o := ⟨0, none, 0, [], by omega, Own.nil 3 _, rfl, rfl, rfl⟩) (h := ?_)
  rintro m ρ1 L1 ⟨j, a, cap, H, hj, hown, rfl, rfl, rfl⟩
  refine aG ?_
  refine aV (OpVal.mul rfl rfl (i64_in _ (by omega))) ?_
  by_cases hlt : j < 2 * ps.length
  · refine aT ?_ (hb := by simp; omega)
    have h2 : j / 2 < ps.length := by omega
    rcases hro.2 with ⟨h0, _⟩ | ⟨bx, ox, lx, ex, frx, rfl, rfl, hlx, hcx⟩
    · omega
    have hld := int_at hlx hcx h2
    have hnx := pages_step k ps j h2
    generalize ps[j / 2] = p at hld hnx
    refine aV (OpVal.quo rfl rfl (by decide) (r := ((j / 2 : Nat) : Int)) (by rw [show (j : Int).tdiv 2 = ((j / 2 : Nat) : Int) from rfl]; exact wrap_in ⟨by omega, by omega⟩)) ?_
    refine aV (OpVal.ixSl tab_ok rfl rfl rfl rfl rfl h2) ?_
    refine aV (OpVal.load tab_ok rfl (at_ro 0 rfl) hld) ?_
    refine aV (OpVal.rem rfl rfl (by decide) (r := ((j % 2 : Nat) : Int)) rfl) ?_
    refine aBu (ps := [_, _, _]) ?_
    refine aSl (ps := [_]) ?_
    intro bt
    refine aG ?_
    refine aAp (hown) ?_
    rintro _ _ ⟨_, _, _, rfl, rfl, ho⟩
    refine aG ?_
    refine aV (OpVal.add rfl rfl (i64_in _ (by omega))) ?_
    have ho' : Own 3 102 (ios ((pages k ps).take j) ++ ios [(k, p, ((j % 2 : Nat) : Int))]) _ _ _ _ := ho
    rw [← ios_append, ← hnx] at ho'
    refine aR (o := ⟨2 * ps.length - (j + 1), by omega, j + 1, _, _, _, by omega, ho', rfl, rfl, rfl⟩)
  · obtain rfl : j = 2 * ps.length := by omega
    refine aF ?_ (hb := by simp)
    refine W.ret (fin _ _ (FinOk.first 1 (.tmp rfl .nil) rfl ?_))
    rw [← hpl, List.take_length, hpl] at hown
    exact ⟨_, _, _, rfl, rfl, hown⟩
theorem RFetch_spec (page old : Int) (dirty : Bool) : Ctr Try.prog 73 [.int .i64 page, .bool dirty, .int .i64 old] [] [] (fun v L' => ∃ a cap H, v = .slice a (planFetch page dirty old).length cap ∧ L' = [H] ∧ Own 3 102 (ios (planFetch page dirty old)) a (planFetch page dirty old).length cap H) := by
  have main : ∀ (n : Nat) (R : HL) (cx : Cx) (k : List Kont), True := fun _ _ _ _ => trivial
  refine Ctr.enter (n := 17) [.tmp 6] [(0, _), (1, _), (2, _)] Try.func73 rfl rfl rfl (lb rfl) Try.call73 ⟨rfl, rfl, rfl, trivial⟩ ?_
  intro cx fin fin0
  refine aG ?_
  cases dirty with
  | true =>
    refine aT ?_ (hb := by rfl)
    refine aSl (ps := [_]) ?_
    intro bt
    refine aG ?_
    refine aC (o := RPages_spec 2 [old] (by simp) (some ⟨bt, 0, none⟩) 1 [(bt, .cells #[.int .i64 old] 3 (0, 0))] (Own.roSl (Own.exact (m := 1) (cs := ints [old]) bt rfl))) (h := ?_)
    rintro _ _ ⟨a1, cap1, H1, rfl, rfl, ho1⟩
    change Own 3 _ _ _ 2 _ _ at ho1
    refine aG ?_
    refine aSl (ps := [_]) ?_
    intro bt2
    refine aG ?_
    refine aC (o := RPages_spec 1 [page] (by simp) (some ⟨bt2, 0, none⟩) 1 [(bt2, .cells #[.int .i64 page] 3 (0, 0))] (Own.roSl (Own.exact (m := 1) (cs := ints [page]) bt2 rfl))) (h := ?_)
    rintro _ _ ⟨a2, cap2, H2, rfl, rfl, ho2⟩
    change Own 3 _ _ _ 2 _ _ at ho2
    obtain ⟨b2, l2, rfl, rfl, hc2, hl2, ht2⟩ := ho2.some (by decide)
    have hs2 : seg? l2 0 (2 * 3) = some (ios (pages 1 [page])) := by rw [seg?_of _ _ _ (by omega), List.drop_zero, ht2]
    refine aG ?_
    refine aAp (ho1) ?_ (hn := hs2) (h1 := (ios_one _))
    rintro _ _ ⟨_, _, _, rfl, rfl, ho⟩
    refine aG ?_
    rw [← ios_append] at ho
    refine W.ret (fin _ _ (FinOk.first 1 (.tmp rfl .nil) rfl ?_))
    exact ⟨_, _, _, rfl, rfl, ho⟩
  | false =>
    refine aF ?_ (hb := by rfl)
    refine aSl (ps := [_]) ?_
    intro bt2
    refine aG ?_
    refine aC (o := RPages_spec 1 [page] (by simp) (some ⟨bt2, 0, none⟩) 1 [(bt2, .cells #[.int .i64 page] 3 (0, 0))] (Own.roSl (Own.exact (m := 1) (cs := ints [page]) bt2 rfl))) (h := ?_)
    rintro _ _ ⟨a2, cap2, H2, rfl, rfl, ho2⟩
    change Own 3 _ _ _ 2 _ _ at ho2
    obtain ⟨b2, l2, rfl, rfl, hc2, hl2, ht2⟩ := ho2.some (by decide)
    have hs2 : seg? l2 0 (2 * 3) = some (ios (pages 1 [page])) := by rw [seg?_of _ _ _ (by omega), List.drop_zero, ht2]
    refine aG ?_
    refine W.nilChunk ?_
    refine aAp ((Own.nil 3 102)) ?_ (hn := hs2) (h1 := (ios_one _))
    rintro _ _ ⟨_, _, _, rfl, rfl, ho⟩
    refine aG ?_
    refine W.ret (fin _ _ (FinOk.first 1 (.tmp rfl .nil) rfl ?_))
    exact ⟨_, _, _, rfl, rfl, ho⟩
theorem RFlush_spec (ps : List Int) (hn : ps.length ≤ 1000) (a0 : Option Addr) (cap0 : Nat) (ro : HL) (hro : RoSl 1 (ints ps) a0 ps.length ro) :
    Ctr Try.prog 46 [.slice a0 ps.length cap0] [] ro (fun v L' => ∃ a cap H, v = .slice a (planFlush ps).length cap ∧ L' = [H] ∧ Own 3 102 (ios (planFlush ps)) a (planFlush ps).length cap H) := by
  have hS := RPages_spec 2 ps hn a0 cap0 ro hro
  rw [planFlush_len]
  refine Ctr.enter (n := 8) [.tmp 2] [(0, _)] Try.func46 rfl rfl rfl (lb rfl) Try.call46 ⟨rfl, trivial⟩ ?_
  intro cx fin fin0
  refine aG ?_
  refine aC (o := hS) (h := ?_)
  rintro _ _ ⟨a1, cap1, H1, rfl, rfl, ho1⟩
  refine aG ?_
  refine aBu (ps := [_]) ?_
  refine aSl (ps := [_]) ?_
  intro bt
  refine aG ?_
  refine aAp (ho1) ?_
  rintro _ _ ⟨_, _, _, rfl, rfl, ho⟩
  refine aG ?_
  refine W.ret (fin _ _ (FinOk.first 1 (.tmp rfl .nil) rfl ?_))
  refine ⟨_, _, _, rfl, rfl, ?_⟩
  rw [planFlush, ios_append]
  exact ho
def eqIo (x y : Io) : Bool := (x.1 == y.1) && ((x.2.1 == y.2.1) && ((x.2.2 == y.2.2) && true))
theorem eqIo_self (x : Io) : eqIo x x = true := by simp [eqIo]
theorem X_eq (x y : Io) : EqD Try.prog 2 102 (.agg (io3 x).toArray) (.agg (io3 y).toArray) (eqIo x y) :=
  EqD.struct (P := Try.prog) (k := 1) (fs := Try.prog.fieldsOf 102) (by kernel_rfl) (by kernel_rfl)
    (FEqs.of_sig (sig := [(false, 3, 0), (false, 3, 1), (false, 3, 2)]) (by kernel_rfl)
      ⟨_, _, rfl, rfl, FEqT.one ty_3.1 rfl rfl (EqD.int Try.underlying3), _, _, rfl, rfl, FEqT.one ty_3.1 rfl rfl (EqD.int Try.underlying3), _, _, rfl, rfl, FEqT.one ty_3.1 rfl rfl (EqD.int Try.underlying3), rfl⟩)
theorem X_guard : Try.prog.eqGuardType Try.prog.depth 102 = false := by kernel_rfl
theorem io_at {l : List Value} {off : Nat} {xs : List Io} (hl : off + xs.length * 3 ≤ l.length) (h : (l.drop off).take (xs.length * 3) = ios xs) {i : Nat} (hi : i < xs.length) : seg? l (off + i * 3) 3 = some (io3 xs[i]) :=
  RoSl.elem (f := io3) (m := 3) (fun _ => rfl) hl h hi
end Go.Proofs.Ytgipjpiiomgjjaa
