/-
  The document's answers on arenas: Good, Of, Start, May.
-/
import Derived.Test.YtdhjmeoppmpilaaAc
namespace Go.Proofs.Ytdhjmeoppmpilaa
open Go Go.Sl Go.IntWalk
set_option maxHeartbeats 2000000
def Small (ls : List Int) (k : Int) : Prop := ∀ n ∈ ls, 1 ≤ n ∧ n ≤ k
theorem isum_next {ls : List Int} {i : Nat} (hi : i < ls.length) : isum (ls.take (i + 1)) = isum (ls.take i) + ls[i] := by
  unfold isum
  rw [List.take_add_one, List.foldl_append]
  simp [hi]
theorem isum_bound {ls : List Int} {k : Int} (h : ∀ n ∈ ls, 0 ≤ n ∧ n ≤ k) : 0 ≤ isum ls ∧ isum ls ≤ ls.length * k := by
  unfold isum
  have : ∀ (ls : List Int) (a : Int), (∀ n ∈ ls, 0 ≤ n ∧ n ≤ k) → a ≤ ls.foldl (· + ·) a ∧ ls.foldl (· + ·) a ≤ a + ls.length * k := by
    intro ls
    induction ls with
    | nil => intro a _; simp
    | cons x ls ih =>
      intro a h
      have h1 := h x (by simp)
      have h2 := ih (a + x) (fun n hn => h n (by simp [hn]))
      simp only [List.foldl_cons, List.length_cons, Int.natCast_succ, Int.add_mul]
      omega
  have := this ls 0 h
  omega
theorem Good_spec (xs : List Int) (hx : ∀ x ∈ xs, i64s x) (a : Option Addr) (cap : Nat) (ro : HL) (hro : RoSl 1 (ints xs) a xs.length ro) :
    Ctr Try.prog 20 [.slice a xs.length cap] [] ro (fun v L' => ∃ (ys : List Int) (a' : Option Addr) (cap' : Nat) (H : HL), v = .slice a' ys.length cap' ∧ L' = [H] ∧ Own 1 3 (ints ys) a' ys.length cap' H ∧ Small ys 3 ∧ 1 ≤ ys.length ∧ ys.length ≤ 4) := by
  refine Ctr.enter (n := 29) [.tmp 2] [(0, _)] Try.func20 rfl rfl rfl (Nat.le_of_ble_eq_true rfl) Try.call20 ⟨rfl, trivial⟩ ?_
  intro cx fin fin0
  refine W.step tab_ok rfl rfl ?_
  refine W.nilChunk ?_
  refine W.loop (fun k ρ1 L1 => ∃ (j : Nat) (ys : List Int) (aa : Option Addr) (cc : Nat) (H : HL), ys.length = j ∧ j ≤ xs.length ∧ j ≤ 4 ∧ Small ys 3 ∧ Own 1 3 (ints ys) aa j cc H ∧ k = 4 - j ∧ ρ1 = [(4, .int .i64 (j : Int)), (3, .slice aa j cc), (0, .slice a xs.length cap)] ∧ L1 = [H]) _ _ _ (by repeat (first | exact trivial | refine ⟨rfl, ?_⟩)) (by repeat (first | exact Sel.nil | (apply Sel.cons; (repeat (first | exact Pick.here | apply Pick.there))))) (⟨0, [], none, 0, [], rfl, Nat.zero_le _, by decide, (by intro n hn; cases hn), Own.nil _ _, rfl, rfl, rfl⟩) ?_
  rintro k ρ1 L1 ⟨j, ys, aa, cc, H, hyj, hy1, hy2, hys, hown, rfl, rfl, rfl⟩
  refine W.step tab_ok rfl rfl ?_
  by_cases hc : j < xs.length ∧ j < 4
  · repeat (refine W.guardGo rfl rfl (by simp; omega) (W.step tab_ok rfl rfl ?_))
    refine W.val (OpVal.pickT rfl (by simp; omega) rfl) (by exact Nat.le_of_ble_eq_true rfl) (W.step tab_ok rfl rfl ?_)
    refine W.iteT rfl (by simp; omega) (W.step tab_ok rfl rfl ?_)
    rcases hro.2 with ⟨h0, _⟩ | ⟨bx, ox, lx, ex, frx, rfl, rfl, hlx, hcx⟩
    · omega
    have hld := int_at hlx hcx hc.1
    have hxi := hx _ (List.getElem_mem hc.1)
    generalize xs[j] = x at hld hxi
    refine W.val (OpVal.ixSl tab_ok rfl rfl rfl rfl rfl hc.1) (by exact Nat.le_of_ble_eq_true rfl) (W.step tab_ok rfl rfl ?_)
    refine W.val (OpVal.load tab_ok rfl (at_ro 0 rfl) hld) (by exact Nat.le_of_ble_eq_true rfl) (W.step tab_ok rfl rfl ?_)
    refine W.call rfl rfl rfl rfl (Around_spec x 3 hxi (by decide)) (by repeat (first | exact Sel.nil | (apply Sel.cons; (repeat (first | exact Pick.here | apply Pick.there))))) (by repeat (first | exact RoIn.nil | exact RoIn.same | refine RoIn.cons (by first | exact at_own 0 rfl | exact at_own 1 rfl | exact at_own 2 rfl | exact at_own 3 rfl | exact at_own 4 rfl | exact at_own 5 rfl | exact at_own 6 rfl | exact at_own 7 rfl | exact at_own 8 rfl | exact at_own 9 rfl | exact at_own 10 rfl | exact at_own 11 rfl | exact at_ro 0 rfl | exact at_ro 1 rfl | exact at_ro 2 rfl | exact at_ro 3 rfl | exact at_ro 4 rfl | exact at_ro 5 rfl) ?_ | refine RoIn.append ?_ ?_ | exact RoIn.own 0 rfl | exact RoIn.own 1 rfl | exact RoIn.own 2 rfl | exact RoIn.own 3 rfl | exact RoIn.own 4 rfl | exact RoIn.own 5 rfl | exact RoIn.own 6 rfl | exact RoIn.own 7 rfl | exact RoIn.own 8 rfl | exact RoIn.own 9 rfl | exact RoIn.own 10 rfl | exact RoIn.own 11 rfl | (intro p hp; simp [hp]; done))) (by exact Nat.le_of_ble_eq_true rfl) ?_
    rintro _ _ ⟨rfl, rfl⟩
    refine W.step tab_ok rfl rfl ?_
    have hr := around_range x 3 (by decide)
    generalize around x 3 = r at hr
    refine W.val (OpVal.add rfl rfl (i64_in _ (by omega))) (by exact Nat.le_of_ble_eq_true rfl) (W.step tab_ok rfl rfl ?_)
    refine W.slit (ps := [_]) tab_ok rfl rfl rfl rfl rfl rfl rfl (by repeat (first | exact trivial | refine ⟨⟨_, _, _, rfl, rfl, rfl⟩, ?_⟩)) rfl (by exact Nat.le_of_ble_eq_true rfl) (by exact Nat.le_of_ble_eq_true rfl) ?_
    intro bt
    refine W.step tab_ok rfl rfl ?_
    refine W.prim (app tab_ok rfl rfl rfl (hown) (by intro p hp; simp [hp]) rfl (by first | exact at_own 0 rfl | exact at_own 1 rfl | exact at_own 2 rfl | exact at_own 3 rfl | exact at_own 4 rfl | exact at_own 5 rfl | exact at_own 6 rfl | exact at_own 7 rfl | exact at_own 8 rfl | exact at_own 9 rfl | exact at_own 10 rfl | exact at_own 11 rfl | exact at_ro 0 rfl | exact at_ro 1 rfl | exact at_ro 2 rfl | exact at_ro 3 rfl | exact at_ro 4 rfl | exact at_ro 5 rfl) rfl rfl (by omega) (by omega)) (by repeat (first | exact Sel.nil | (apply Sel.cons; (repeat (first | exact Pick.here | apply Pick.there))))) (by exact Nat.le_of_ble_eq_true rfl) ?_
    rintro _ _ ⟨_, _, _, rfl, rfl, ho⟩
    refine W.step tab_ok rfl rfl ?_
    have ei : ints ys ++ [.int .i64 (1 + r)] = ints (ys ++ [1 + r]) := by simp [ints]
    rw [ei] at ho
    refine W.val (OpVal.add rfl rfl (i64_in _ (by omega))) (by exact Nat.le_of_ble_eq_true rfl) (W.step tab_ok rfl rfl ?_)
    refine W.rnd _ _ (by repeat (first | exact trivial | refine ⟨rfl, ?_⟩)) (by repeat (first | exact Sel.nil | (apply Sel.cons; (repeat (first | exact Pick.here | apply Pick.there))))) (⟨4 - (j + 1), by omega, j + 1, ys ++ [1 + r], _, _, _, by simp; omega, by omega, by omega, (by intro n hn; rcases List.mem_append.1 hn with h | h; exact hys n h; simp at h; omega), ho, rfl, rfl, rfl⟩)
  · by_cases h1 : j < xs.length
    · repeat (refine W.guardGo rfl rfl (by simp; omega) (W.step tab_ok rfl rfl ?_))
      refine W.val (OpVal.pickT rfl (by simp; omega) rfl) (by exact Nat.le_of_ble_eq_true rfl) (W.step tab_ok rfl rfl ?_)
      refine W.iteF rfl (by simp; omega) (W.step tab_ok rfl rfl ?_)
      by_cases h0 : j = 0
      · omega
      · refine W.iteF rfl (by simp; omega) (W.step tab_ok rfl rfl ?_)
        refine W.ret (fin _ _ (FinOk.first 1 (.tmp rfl .nil) rfl ?_))
        subst hyj
        exact ⟨ys, _, _, H, rfl, rfl, hown, hys, by omega, hy2⟩
    · repeat (refine W.guardSkip rfl rfl (by simp; omega) (by exact Nat.le_of_ble_eq_true rfl) (W.step tab_ok rfl rfl ?_))
      refine W.val (OpVal.pickF rfl (by simp; omega) rfl) (by exact Nat.le_of_ble_eq_true rfl) (W.step tab_ok rfl rfl ?_)
      refine W.iteF rfl (by rfl) (W.step tab_ok rfl rfl ?_)
      by_cases h0 : j = 0
      · refine W.iteT rfl (by simp; omega) (W.step tab_ok rfl rfl ?_)
        refine W.slit (ps := [_]) tab_ok rfl rfl rfl rfl rfl rfl rfl (by repeat (first | exact trivial | refine ⟨⟨_, _, _, rfl, rfl, rfl⟩, ?_⟩)) rfl (by exact Nat.le_of_ble_eq_true rfl) (by exact Nat.le_of_ble_eq_true rfl) ?_
        intro bt
        refine W.step tab_ok rfl rfl ?_
        refine W.ret (fin _ _ (FinOk.first 1 (.tmp rfl .nil) rfl ?_))
        exact ⟨[1], _, _, _, rfl, rfl, Own.exact bt (by simp [ints]), (by intro n hn; simp at hn; omega), by simp, by simp⟩
      · refine W.iteF rfl (by simp; omega) (W.step tab_ok rfl rfl ?_)
        refine W.ret (fin _ _ (FinOk.first 1 (.tmp rfl .nil) rfl ?_))
        subst hyj
        exact ⟨ys, _, _, H, rfl, rfl, hown, hys, by omega, hy2⟩
theorem ROf_spec (ls : List Int) (hls : Small ls 64) (hn : ls.length ≤ 1000) (a : Option Addr) (cap : Nat) (ro : HL) (hro : RoSl 1 (ints ls) a ls.length ro) (at_ : Int) :
    Ctr Try.prog 22 [.slice a ls.length cap, .int .i64 at_] [] ro (fun v L' => L' = [] ∧
      ((v = .tuple #[.int .i64 (-1), .int .i64 (-1)] ∧ (at_ < 0 ∨ isum ls ≤ at_)) ∨ ∃ i : Nat, v = .tuple #[.int .i64 (i : Int), .int .i64 (at_ - isum (ls.take i))] ∧ 0 ≤ at_ ∧ i < ls.length ∧ isum (ls.take i) ≤ at_ ∧ at_ < isum (ls.take (i + 1)))) := by
  refine Ctr.enter (n := 30) [.tmp 4, .tmp 5] [(0, _), (1, _)] Try.func22 rfl rfl rfl (Nat.le_of_ble_eq_true rfl) Try.call22 ⟨rfl, rfl, trivial⟩ ?_
  intro cx fin fin0
  refine W.step tab_ok rfl rfl ?_
  refine W.loop (fun k ρ1 L1 => ∃ (j : Nat) (s : Int), j ≤ ls.length ∧ s = isum (ls.take j) ∧ (at_ < 0 ∨ s ≤ at_) ∧ k = ls.length - j ∧ ρ1 = [(7, .int .i64 (j : Int)), (6, .int .i64 s), (0, .slice a ls.length cap), (1, .int .i64 at_)] ∧ L1 = []) _ _ _ (by repeat (first | exact trivial | refine ⟨rfl, ?_⟩)) (by repeat (first | exact Sel.nil | (apply Sel.cons; (repeat (first | exact Pick.here | apply Pick.there))))) (⟨0, 0, Nat.zero_le _, rfl, by omega, rfl, rfl, rfl⟩) ?_
  rintro k ρ1 L1 ⟨j, s, hj, hs, hat, rfl, rfl, rfl⟩
  refine W.step tab_ok rfl rfl ?_
  by_cases hlt : j < ls.length
  · refine W.iteT rfl (by simp; omega) (W.step tab_ok rfl rfl ?_)
    rcases hro.2 with ⟨h0, _⟩ | ⟨bx, ox, lx, ex, frx, rfl, rfl, hlx, hcx⟩
    · omega
    have hld := int_at hlx hcx hlt
    have hnx := isum_next hlt
    have hx := hls _ (List.getElem_mem hlt)
    have hb := isum_bound (ls := ls.take j) (k := 64) (fun n hn => by have := hls n (List.mem_of_mem_take hn); omega)
    have hlen : (ls.take j).length ≤ 1000 := by simp; omega
    rw [← hs] at hnx hb
    generalize ls[j] = x at hld hnx hx
    refine W.loop (fun k ρ1 L1 => ∃ (q : Nat) (u : Int), u = s + q ∧ (q : Int) ≤ x ∧ (at_ < 0 ∨ u ≤ at_) ∧ k = x.toNat - q ∧ ρ1 = [(8, .int .i64 (q : Int)), (6, .int .i64 u), (7, .int .i64 (j : Int)), (0, .slice (some ⟨bx, ox, none⟩) ls.length cap), (1, .int .i64 at_)] ∧ L1 = []) _ _ _ (by repeat (first | exact trivial | refine ⟨rfl, ?_⟩)) (by repeat (first | exact Sel.nil | (apply Sel.cons; (repeat (first | exact Pick.here | apply Pick.there))))) (⟨0, s, by omega, by omega, by omega, rfl, rfl, rfl⟩) ?_
    rintro k ρ1 L1 ⟨q, u, hu, hq, hat2, rfl, rfl, rfl⟩
    refine W.step tab_ok rfl rfl ?_
    refine W.val (OpVal.ixSl tab_ok rfl rfl rfl rfl rfl hlt) (by exact Nat.le_of_ble_eq_true rfl) (W.step tab_ok rfl rfl ?_)
    refine W.val (OpVal.load tab_ok rfl (at_ro 0 rfl) hld) (by exact Nat.le_of_ble_eq_true rfl) (W.step tab_ok rfl rfl ?_)
    by_cases hqx : (q : Int) < x
    · refine W.iteT rfl (by simp [hqx]) (W.step tab_ok rfl rfl ?_)
      by_cases he : u = at_
      · refine W.iteT rfl (by simp [he]) (W.step tab_ok rfl rfl ?_)
        refine W.ret (fin _ _ (FinOk.mk' ([]) (.tmp rfl (.tmp rfl .nil)) (by repeat (first | exact Sel.nil | (apply Sel.cons; (repeat (first | exact Pick.here | apply Pick.there))))) rfl ?_))
        refine ⟨rfl, .inr ⟨j, ?_, by omega, hlt, by omega, by omega⟩⟩
        rw [← hs, show at_ - s = (q : Int) from by omega]
        rfl
      · refine W.iteF rfl (by simp [he]) (W.step tab_ok rfl rfl ?_)
        refine W.val (OpVal.add rfl rfl (i64_in _ (by omega))) (by exact Nat.le_of_ble_eq_true rfl) (W.step tab_ok rfl rfl ?_)
        refine W.val (OpVal.add rfl rfl (i64_in _ (by omega))) (by exact Nat.le_of_ble_eq_true rfl) (W.step tab_ok rfl rfl ?_)
        refine W.rnd _ _ (by repeat (first | exact trivial | refine ⟨rfl, ?_⟩)) (by repeat (first | exact Sel.nil | (apply Sel.cons; (repeat (first | exact Pick.here | apply Pick.there))))) (⟨x.toNat - (q + 1), by omega, q + 1, _, by omega, by omega, by omega, rfl, rfl, rfl⟩)
    · refine W.iteF rfl (by simp [hqx]) (W.step tab_ok rfl rfl ?_)
      refine W.val (OpVal.add rfl rfl (i64_in _ (by omega))) (by exact Nat.le_of_ble_eq_true rfl) (W.step tab_ok rfl rfl ?_)
      refine W.rnd _ _ (by repeat (first | exact trivial | refine ⟨rfl, ?_⟩)) (by repeat (first | exact Sel.nil | (apply Sel.cons; (repeat (first | exact Pick.here | apply Pick.there))))) (⟨ls.length - (j + 1), by omega, j + 1, _, by omega, by omega, by omega, rfl, rfl, rfl⟩)
  · refine W.iteF rfl (by simp; omega) (W.step tab_ok rfl rfl ?_)
    have : j = ls.length := by omega
    subst this
    rw [List.take_length] at hs
    refine W.ret (fin _ _ (FinOk.mk' ([]) (.tmp rfl (.tmp rfl .nil)) (by repeat (first | exact Sel.nil | (apply Sel.cons; (repeat (first | exact Pick.here | apply Pick.there))))) rfl ?_))
    exact ⟨rfl, .inl ⟨rfl, by rw [← hs]; exact hat⟩⟩
def rstart (ls : List Int) (i : Int) : Int := if 0 ≤ i ∧ i < ls.length then isum (ls.take i.toNat) else 0
theorem RStart_spec (ls : List Int) (hls : Small ls 64) (hn : ls.length ≤ 1000) (a : Option Addr) (cap : Nat) (ro : HL) (hro : RoSl 1 (ints ls) a ls.length ro) (i : Int) :
    Ctr Try.prog 24 [.slice a ls.length cap, .int .i64 i] [] ro (fun v L' => v = .int .i64 (rstart ls i) ∧ L' = []) := by
  refine Ctr.enter (n := 25) [.tmp 4] [(0, _), (1, _)] Try.func24 rfl rfl rfl (Nat.le_of_ble_eq_true rfl) Try.call24 ⟨rfl, rfl, trivial⟩ ?_
  intro cx fin fin0
  refine W.step tab_ok rfl rfl ?_
  refine W.loop (fun k ρ1 L1 => ∃ (j : Nat) (s : Int), j ≤ ls.length ∧ ((0 ≤ i ∧ i < ls.length) → (j : Int) ≤ i) ∧ (¬ (0 ≤ i ∧ i < ls.length) → j = 0) ∧ s = isum (ls.take j) ∧ k = ls.length - j ∧ ρ1 = [(6, .int .i64 (j : Int)), (5, .int .i64 s), (0, .slice a ls.length cap), (1, .int .i64 i)] ∧ L1 = []) _ _ _ (by repeat (first | exact trivial | refine ⟨rfl, ?_⟩)) (by repeat (first | exact Sel.nil | (apply Sel.cons; (repeat (first | exact Pick.here | apply Pick.there))))) (⟨0, 0, Nat.zero_le _, by omega, by omega, rfl, rfl, rfl, rfl⟩) ?_
  rintro k ρ1 L1 ⟨j, s, hj, hi1, hi2, hs, rfl, rfl, rfl⟩
  refine W.step tab_ok rfl rfl ?_
  by_cases h1 : (j : Int) < i
  · repeat (refine W.guardGo rfl rfl (by simp [h1]) (W.step tab_ok rfl rfl ?_))
    refine W.val (OpVal.pickT rfl (by simp [h1]) rfl) (by exact Nat.le_of_ble_eq_true rfl) (W.step tab_ok rfl rfl ?_)
    by_cases h2 : i < ls.length
    · have hlt : j < ls.length := by omega
      refine W.iteT rfl (by simp [h2]) (W.step tab_ok rfl rfl ?_)
      rcases hro.2 with ⟨h0, _⟩ | ⟨bx, ox, lx, ex, frx, rfl, rfl, hlx, hcx⟩
      · omega
      have hld := int_at hlx hcx hlt
      have hnx := isum_next hlt
      have hx := hls _ (List.getElem_mem hlt)
      have hb := isum_bound (ls := ls.take j) (k := 64) (fun n hn => by have := hls n (List.mem_of_mem_take hn); omega)
      have hlen : (ls.take j).length ≤ 1000 := by simp; omega
      rw [← hs] at hnx hb
      generalize ls[j] = x at hld hnx hx
      refine W.val (OpVal.ixSl tab_ok rfl rfl rfl rfl rfl hlt) (by exact Nat.le_of_ble_eq_true rfl) (W.step tab_ok rfl rfl ?_)
      refine W.val (OpVal.load tab_ok rfl (at_ro 0 rfl) hld) (by exact Nat.le_of_ble_eq_true rfl) (W.step tab_ok rfl rfl ?_)
      refine W.val (OpVal.add rfl rfl (i64_in _ (by omega))) (by exact Nat.le_of_ble_eq_true rfl) (W.step tab_ok rfl rfl ?_)
      refine W.val (OpVal.add rfl rfl (i64_in _ (by omega))) (by exact Nat.le_of_ble_eq_true rfl) (W.step tab_ok rfl rfl ?_)
      refine W.rnd _ _ (by repeat (first | exact trivial | refine ⟨rfl, ?_⟩)) (by repeat (first | exact Sel.nil | (apply Sel.cons; (repeat (first | exact Pick.here | apply Pick.there))))) (⟨ls.length - (j + 1), by omega, j + 1, _, by omega, by omega, by omega, hnx.symm, rfl, rfl, rfl⟩)
    · refine W.iteF rfl (by simp; omega) (W.step tab_ok rfl rfl ?_)
      have := hi2 (by omega)
      subst this
      refine W.ret (fin _ _ (FinOk.mk' ([]) (.tmp rfl .nil) (by repeat (first | exact Sel.nil | (apply Sel.cons; (repeat (first | exact Pick.here | apply Pick.there))))) rfl ?_))
      exact ⟨by rw [hs]; simp only [pack, rstart]; rw [if_neg (by omega)]; rfl, rfl⟩
  · repeat (refine W.guardSkip rfl rfl (by simp [h1]) (by exact Nat.le_of_ble_eq_true rfl) (W.step tab_ok rfl rfl ?_))
    refine W.val (OpVal.pickF rfl (by simp [h1]) rfl) (by exact Nat.le_of_ble_eq_true rfl) (W.step tab_ok rfl rfl ?_)
    refine W.iteF rfl (by rfl) (W.step tab_ok rfl rfl ?_)
    refine W.ret (fin _ _ (FinOk.mk' ([]) (.tmp rfl .nil) (by repeat (first | exact Sel.nil | (apply Sel.cons; (repeat (first | exact Pick.here | apply Pick.there))))) rfl ?_))
    refine ⟨?_, rfl⟩
    rw [hs]
    simp only [pack, rstart]
    by_cases h2 : 0 ≤ i ∧ i < ls.length
    · rw [if_pos h2]
      have : i.toNat = j := by have := hi1 h2; omega
      rw [this]
    · rw [if_neg h2, hi2 h2]
      rfl
end Go.Proofs.Ytdhjmeoppmpilaa
