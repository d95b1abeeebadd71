/-
  Plans: the steps of loads, stores, a fetch, a flush, of the program and of the document, as lists.
-/
import Derived.Test.YtgipjpiiomgjjaaAr
import Derived.Test.YtgipjpiiomgjjaaLw
import Derived.Test.YtgipjpiiomgjjaaEq
namespace Go.Proofs.Ytgipjpiiomgjjaa
open Go Go.Sl Go.IntWalk
set_option maxHeartbeats 4000000
set_option maxRecDepth 20000
abbrev Io := Int × Int × Int
def io3 (x : Io) : List Value := [.int .i64 x.1, .int .i64 x.2.1, .int .i64 x.2.2]
def ios (l : List Io) : List Value := l.flatMap io3
theorem ios_len (l : List Io) : (ios l).length = l.length * 3 := flatMap_len io3 3 (fun _ => rfl) l
theorem ios_append (a b : List Io) : ios (a ++ b) = ios a ++ ios b := by simp [ios]
theorem ios_one (l : List Io) : allOne (ios l) = true := by
  refine allOne_of fun v hv => ?_
  obtain ⟨x, _, hx⟩ := List.mem_flatMap.1 hv
  simp only [io3, List.mem_cons, List.not_mem_nil, or_false] at hx
  rcases hx with rfl | rfl | rfl <;> rfl
def both (k p : Int) : List Io := [(k, p, 0), (k, p, 1)]
def pages (k : Int) (ps : List Int) : List Io := ps.flatMap (both k)
def planFetch (page : Int) (dirty : Bool) (old : Int) : List Io := (if dirty = true then pages 2 [old] else []) ++ pages 1 [page]
def planFlush (ps : List Int) : List Io := pages 2 ps ++ [(3, 0, 0)]
theorem pages_len (k : Int) (ps : List Int) : (pages k ps).length = 2 * ps.length := by
  induction ps with
  | nil => rfl
  | cons p ps ih => simp only [pages, List.flatMap_cons, List.length_append, List.length_cons] at *; rw [ih]; simp [both]; omega
theorem pages_next (k : Int) (ps : List Int) (i : Nat) (hi : i < ps.length) : pages k (ps.take (i + 1)) = pages k (ps.take i) ++ both k ps[i] := by
  rw [List.take_add_one, List.getElem?_eq_getElem hi]
  simp only [pages, List.flatMap_append, Option.toList_some, List.flatMap_cons, List.flatMap_nil, List.append_nil]
theorem pages_at (k : Int) : ∀ (ps : List Int) (i : Nat) (h : i / 2 < ps.length), (pages k ps)[i]? = some (k, ps[i / 2], ((i % 2 : Nat) : Int))
  | [], i, h => by simp at h
  | p :: ps, 0, h => rfl
  | p :: ps, 1, h => rfl
  | p :: ps, i + 2, h => by
    have e : (i + 2) / 2 = i / 2 + 1 := by omega
    have e2 : (i + 2) % 2 = i % 2 := by omega
    have h' : i / 2 < ps.length := by simp only [List.length_cons] at h; omega
    have ih := pages_at k ps i h'
    have e3 : (pages k (p :: ps))[i + 2]? = (pages k ps)[i]? := rfl
    rw [e3, ih, e2]
    simp [e]
theorem pages_step (k : Int) (ps : List Int) (i : Nat) (h : i / 2 < ps.length) : (pages k ps).take (i + 1) = (pages k ps).take i ++ [(k, ps[i / 2], ((i % 2 : Nat) : Int))] := by
  rw [List.take_add_one, pages_at k ps i h]
  rfl
theorem both_spec (k p : Int) : Ctr Try.prog 103 [.int .i64 k, .int .i64 p] [] [] (fun v L' => ∃ a cap H, v = .slice a 2 cap ∧ L' = [H] ∧ Own 3 83 (ios (both k p)) a 2 cap H) := by
  refine Ctr.enter (n := 19) [.tmp 4] [(0, _), (1, _)] Try.func103 rfl rfl rfl (lb rfl) Try.call103 ⟨rfl, rfl, trivial⟩ ?_
  intro cx fin fin0
  refine aG ?_
  refine W.nilChunk ?_
  refine aLp (fun m ρ1 L1 => ∃ (j : Nat) (a : Option Addr) (cap : Nat) (H : HL), j ≤ 2 ∧ Own 3 83 (ios ((both k p).take j)) a j cap H ∧ m = 2 - j ∧ ρ1 = [(7, .int .i64 (j : Int)), (5, .slice a j cap), (0, .int .i64 k), (1, .int .i64 p)] ∧ L1 = [H]) (o := ⟨0, none, 0, [], by omega, Own.nil 3 _, rfl, rfl, rfl⟩) (h := ?_)
  rintro m ρ1 L1 ⟨j, a, cap, H, hj, hown, rfl, rfl, rfl⟩
  refine aG ?_
  by_cases hlt : j < 2
  · refine aT ?_ (hb := by simp; omega)
    refine aBu (ps := [_, _, _]) ?_
    refine aSl (ps := [_]) ?_
    intro bt
    refine aG ?_
    refine aAp (hown) ?_
    rintro _ _ ⟨_, _, _, rfl, rfl, ho⟩
    refine aG ?_
    refine aV (OpVal.add rfl rfl (i64_in _ (by omega))) ?_
    have e : ios ((both k p).take j) ++ [.int .i64 k, .int .i64 p, .int .i64 (j : Int)] = ios ((both k p).take (j + 1)) := by
      obtain rfl | rfl : j = 0 ∨ j = 1 := by omega
      · rfl
      · rfl
    have ho' : Own 3 83 (ios ((both k p).take j) ++ [.int .i64 k, .int .i64 p, .int .i64 (j : Int)]) _ _ _ _ := ho
    rw [e] at ho'
    refine aR (o := ⟨2 - (j + 1), by omega, j + 1, _, _, _, by omega, ho', rfl, rfl, rfl⟩)
  · obtain rfl : j = 2 := by omega
    refine aF ?_ (hb := by rfl)
    refine W.ret (fin _ _ (FinOk.first 1 (.tmp rfl .nil) rfl ?_))
    exact ⟨_, _, _, rfl, rfl, hown⟩
theorem Loads_spec (p : Int) : Ctr Try.prog 98 [.int .i64 p] [] [] (fun v L' => ∃ a cap H, v = .slice a 2 cap ∧ L' = [H] ∧ Own 3 83 (ios (pages 1 [p])) a 2 cap H) := by
  have hb := both_spec 1 p
  have e : both 1 p = pages 1 [p] := rfl
  rw [e] at hb
  refine Ctr.enter (n := 5) [.tmp 2] [(0, _)] Try.func98 rfl rfl rfl (lb rfl) Try.call98 ⟨rfl, trivial⟩ ?_
  intro cx fin fin0
  refine aG ?_
  refine aC (o := hb) (h := ?_)
  rintro _ _ ⟨a, cap, H, rfl, rfl, ho⟩
  refine aG ?_
  refine W.ret (fin _ _ (FinOk.first 1 (.tmp rfl .nil) rfl ?_))
  exact ⟨_, _, _, rfl, rfl, ho⟩
theorem Stores_spec (ps : List Int) (hn : ps.length ≤ 1000) (a0 : Option Addr) (cap0 : Nat) (ro : HL) (hro : RoSl 1 (ints ps) a0 ps.length ro) :
    Ctr Try.prog 97 [.slice a0 ps.length cap0] [] ro (fun v L' => ∃ a cap H, v = .slice a (2 * ps.length) cap ∧ L' = [H] ∧ Own 3 83 (ios (pages 2 ps)) a (2 * ps.length) cap H) := by
  refine Ctr.enter (n := 18) [.tmp 2] [(0, _)] Try.func97 rfl rfl rfl (lb rfl) Try.call97 ⟨rfl, trivial⟩ ?_
  intro cx fin fin0
  refine aG ?_
  refine W.nilChunk ?_
  refine aLp (fun m ρ1 L1 => ∃ (j : Nat) (a : Option Addr) (cap : Nat) (H : HL), j ≤ ps.length ∧ Own 3 83 (ios (pages 2 (ps.take j))) a (2 * j) cap H ∧ m = ps.length - j ∧ ρ1 = [(8, .int .i64 (j : Int)), (7, .int .i64 (ps.length : Int)), (6, .slice a0 ps.length cap0), (3, .slice a (2 * j) cap)] ∧ L1 = [H]) (o := ⟨0, none, 0, [], by omega, Own.nil 3 _, rfl, rfl, rfl⟩) (h := ?_)
  rintro m ρ1 L1 ⟨j, a, cap, H, hj, hown, rfl, rfl, rfl⟩
  refine aG ?_
  by_cases hlt : j < ps.length
  · refine aT ?_ (hb := by simp; omega)
    rcases hro.2 with ⟨h0, _⟩ | ⟨bx, ox, lx, ex, frx, rfl, rfl, hlx, hcx⟩
    · omega
    have hld := int_at hlx hcx hlt
    have hnx := pages_next 2 ps j hlt
    have hc := both_spec 2 ps[j]
    generalize ps[j] = p at hld hnx hc
    refine aV (OpVal.ixSl tab_ok rfl rfl rfl rfl rfl hlt) ?_
    refine aV (OpVal.load tab_ok rfl (at_ro 0 rfl) hld) ?_
    refine aC (o := hc) (h := ?_)
    rintro _ _ ⟨a2, cap2, H2, rfl, rfl, ho2⟩
    refine aG ?_
    obtain ⟨b2, l2, rfl, rfl, hc2, hl2, ht2⟩ := ho2.some (by decide)
    have hs2 : seg? l2 0 (2 * 3) = some (ios (both 2 p)) := by rw [seg?_of _ _ _ (by omega), List.drop_zero, ht2]
    refine aAp (hown) ?_ (hn := hs2) (h1 := (ios_one _))
    rintro _ _ ⟨_, _, _, rfl, rfl, ho⟩
    refine aG ?_
    refine aV (OpVal.add rfl rfl (i64_in _ (by omega))) ?_
    rw [← ios_append, ← hnx] at ho
    refine aR (o := ⟨ps.length - (j + 1), by omega, j + 1, _, _, _, by omega, ho, rfl, rfl, rfl⟩)
  · obtain rfl : j = ps.length := by omega
    refine aF ?_ (hb := by simp)
    refine W.ret (fin _ _ (FinOk.first 1 (.tmp rfl .nil) rfl ?_))
    rw [List.take_length] at hown
    exact ⟨_, _, _, rfl, rfl, hown⟩
theorem Own.roInts {a : Option Addr} {len cap : Nat} {cs : List Value} {H : HL} {e m : Nat} (h : Own m e cs a len cap H) : RoSl m cs a len H := Own.roSl h
theorem PFetch_spec (page old : Int) (dirty : Bool) : Ctr Try.prog 83 [.int .i64 page, .bool dirty, .int .i64 old] [] [] (fun v L' => ∃ a cap H, v = .slice a (planFetch page dirty old).length cap ∧ L' = [H] ∧ Own 3 83 (ios (planFetch page dirty old)) a (planFetch page dirty old).length cap H) := by
  have hL := Loads_spec page
  refine Ctr.enter (n := 16) [.tmp 6] [(0, _), (1, _), (2, _)] Try.func83 rfl rfl rfl (lb rfl) Try.call83 ⟨rfl, rfl, rfl, trivial⟩ ?_
  intro cx fin fin0
  refine aG ?_
  cases dirty with
  | true =>
    refine aT ?_ (hb := by rfl)
    refine aSl (ps := [_]) ?_
    intro bt
    refine aG ?_
    refine aC (o := Stores_spec [old] (by simp) (some ⟨bt, 0, none⟩) 1 [(bt, .cells #[.int .i64 old] 3 (0, 0))] (Own.roSl (Own.exact (m := 1) (cs := ints [old]) bt rfl))) (h := ?_)
    rintro _ _ ⟨a1, cap1, H1, rfl, rfl, ho1⟩
    change Own 3 _ _ _ 2 _ _ at ho1
    refine aG ?_
    refine aC (o := hL) (h := ?_)
    rintro _ _ ⟨a2, cap2, H2, rfl, rfl, ho2⟩
    refine aG ?_
    obtain ⟨b2, l2, rfl, rfl, hc2, hl2, ht2⟩ := ho2.some (by decide)
    have hs2 : seg? l2 0 (2 * 3) = some (ios (pages 1 [page])) := by rw [seg?_of _ _ _ (by omega), List.drop_zero, ht2]
    refine aAp (ho1) ?_ (hn := hs2) (h1 := (ios_one _))
    rintro _ _ ⟨_, _, _, rfl, rfl, ho⟩
    refine aG ?_
    rw [← ios_append] at ho
    refine W.ret (fin _ _ (FinOk.first 1 (.tmp rfl .nil) rfl ?_))
    exact ⟨_, _, _, rfl, rfl, ho⟩
  | false =>
    refine aF ?_ (hb := by rfl)
    refine aC (o := hL) (h := ?_)
    rintro _ _ ⟨a2, cap2, H2, rfl, rfl, ho2⟩
    refine aG ?_
    refine W.ret (fin _ _ (FinOk.first 1 (.tmp rfl .nil) rfl ?_))
    exact ⟨_, _, _, rfl, rfl, ho2⟩
theorem planFlush_len (ps : List Int) : (planFlush ps).length = 2 * ps.length + 1 := by simp [planFlush, pages_len]
theorem PFlush_spec (ps : List Int) (hn : ps.length ≤ 1000) (a0 : Option Addr) (cap0 : Nat) (ro : HL) (hro : RoSl 1 (ints ps) a0 ps.length ro) :
    Ctr Try.prog 89 [.slice a0 ps.length cap0] [] ro (fun v L' => ∃ a cap H, v = .slice a (planFlush ps).length cap ∧ L' = [H] ∧ Own 3 83 (ios (planFlush ps)) a (planFlush ps).length cap H) := by
  have hS := Stores_spec ps hn a0 cap0 ro hro
  rw [planFlush_len]
  refine Ctr.enter (n := 8) [.tmp 2] [(0, _)] Try.func89 rfl rfl rfl (lb rfl) Try.call89 ⟨rfl, trivial⟩ ?_
  intro cx fin fin0
  refine aG ?_
  refine aC (o := hS) (h := ?_)
  rintro _ _ ⟨a1, cap1, H1, rfl, rfl, ho1⟩
  refine aG ?_
  refine aBu (ps := [_]) ?_
  refine aSl (ps := [_]) ?_
  intro bt
  refine aG ?_
  refine aAp (ho1) ?_
  rintro _ _ ⟨_, _, _, rfl, rfl, ho⟩
  refine aG ?_
  refine W.ret (fin _ _ (FinOk.first 1 (.tmp rfl .nil) rfl ?_))
  refine ⟨_, _, _, rfl, rfl, ?_⟩
  rw [planFlush, ios_append]
  exact ho
end Go.Proofs.Ytgipjpiiomgjjaa
