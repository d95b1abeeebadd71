/-
  The document's Few, Fill, Bytes: bytes made of any.
-/
import Derived.Test.YtpimbaphenignaaAr
import Derived.Test.YtpimbaphenignaaSt
import Derived.Test.YtpimbaphenignaaLw
namespace Go.Proofs.Ytpimbaphenignaa
open Go Go.Sl Go.IntWalk
set_option maxHeartbeats 4000000
set_option maxRecDepth 20000
theorem u8_at {l : List Value} {off : Nat} {xs : List Int} (hl : off + xs.length * 1 ≤ l.length) (h : (l.drop off).take (xs.length * 1) = u8s xs) {i : Nat} (hi : i < xs.length) :
    l[off + i * 1]? = some (.int .u8 xs[i]) := by
  have h1 := RoSl.elem (f := fun x => [Value.int .u8 x]) (m := 1) (fun _ => rfl) hl h hi
  obtain ⟨h2, h3⟩ := seg?_eq _ _ _ h1
  have h4 := congrArg (fun l => l[0]?) h3
  simp only [List.getElem?_cons_zero] at h4
  rw [List.getElem?_take, if_pos (by decide), List.getElem?_drop] at h4
  simpa using h4.symm
theorem Few_spec (bs : List Int) (a : Option Addr) (cap : Nat) (hcap : bs.length ≤ cap) (ro : HL) (hro : RoSl 1 (u8s bs) a bs.length ro) (m : Int) (h0 : 0 ≤ m) (h1 : m ≤ 1000) :
    Ctr Try.prog 22 [.slice a bs.length cap, .int .i64 m] [] ro (fun v L' => ∃ a' cap' H, v = .slice a' (bs.take m.toNat).length cap' ∧ L' = [H] ∧ Own 1 5 (u8s (bs.take m.toNat)) a' (bs.take m.toNat).length cap' H) := by
  obtain ⟨k, rfl⟩ : ∃ k : Nat, m = (k : Int) := ⟨m.toNat, by omega⟩
  have hmin : (if (k : Int) < (bs.length : Int) then (k : Int) else (bs.length : Int)) = ((min bs.length k : Nat) : Int) := by split <;> omega
  have hro2 : RoSl 1 (u8s (bs.take (min bs.length k))) a (min bs.length k) ro := RoSl.take (f := fun x => [Value.int .u8 x]) (fun _ => rfl) hro _ (by omega)
  have e1 : bs.take (min bs.length k) = bs.take k := by rw [List.take_eq_take_iff]; omega
  have e2 : (bs.take k).length = min bs.length k := by rw [List.length_take]; omega
  rw [e1] at hro2
  rw [Int.toNat_natCast, e2]
  refine Ctr.enter (n := 14) [.tmp 4] [(0, _), (1, _)] Try.func22 rfl rfl rfl (lb rfl) Try.call22 ⟨rfl, rfl, trivial⟩ ?_
  intro cx fin fin0
  refine aG ?_
  refine aV (OpVal.min2 rfl rfl) ?_
  refine aV (OpVal.front tab_ok rfl rfl rfl rfl hmin (by omega)) ?_
  refine W.nilChunk ?_
  refine aPr (appRo tab_ok rfl rfl rfl (Own.nil 1 5) (fun _ h => by cases h) rfl hro2 (fun p hp => .inr hp) (u8s_one _) (by omega) (by omega)) ?_
  rintro _ _ ⟨a', cap', H', rfl, rfl, ho⟩
  refine aG ?_
  refine W.ret (fin _ _ (FinOk.first 1 (.tmp rfl .nil) rfl ?_))
  rw [Nat.zero_add] at ho ⊢
  exact ⟨a', cap', H', rfl, rfl, ho⟩
/-- 32 bytes, made of any. -/
def fill (bs : List Int) (n : Nat) : List Int := (List.range n).map fun i => if bs.length = 0 then 0 else bs.getD (i % bs.length) 0
theorem fill_next (bs : List Int) (n : Nat) : fill bs (n + 1) = fill bs n ++ [if bs.length = 0 then 0 else bs.getD (n % bs.length) 0] := by simp [fill, List.range_succ]
theorem fill_len (bs : List Int) (n : Nat) : (fill bs n).length = n := by simp [fill]
theorem fill_ok {bs : List Int} (h : u8ok bs) (n : Nat) : u8ok (fill bs n) := by
  intro x hx
  obtain ⟨i, _, rfl⟩ := List.mem_map.1 hx
  split
  · omega
  · rw [List.getD_eq_getElem?_getD, List.getElem?_eq_getElem (Nat.mod_lt _ (by omega)), Option.getD_some]
    exact h _ (List.getElem_mem _)
theorem Fill_spec (bs : List Int) (a : Option Addr) (cap : Nat) (ro : HL) (hro : RoSl 1 (u8s bs) a bs.length ro) (m : Int) (h0 : 0 ≤ m) (h1 : m ≤ 1000) :
    Ctr Try.prog 11 [.slice a bs.length cap, .int .i64 m] [] ro (fun v L' => ∃ a' cap' H, v = .slice a' m.toNat cap' ∧ L' = [H] ∧ Own 1 5 (u8s (fill bs m.toNat)) a' m.toNat cap' H) := by
  obtain ⟨k, rfl⟩ : ∃ k : Nat, m = (k : Int) := ⟨m.toNat, by omega⟩
  rw [Int.toNat_natCast]
  refine Ctr.enter (n := 29) [.tmp 4] [(0, _), (1, _)] Try.func11 rfl rfl rfl (lb rfl) Try.call11 ⟨rfl, rfl, trivial⟩ ?_
  intro cx fin fin0
  refine aG ?_
  refine W.nilChunk ?_
  refine aLp (fun q ρ1 L1 => ∃ (j : Nat) (aa : Option Addr) (cc : Nat) (H : HL), j ≤ k ∧ Own 1 5 (u8s (fill bs j)) aa j cc H ∧ q = k - j ∧ ρ1 = [(6, .int .i64 (j : Int)), (5, .slice aa j cc), (0, .slice a bs.length cap), (1, .int .i64 (k : Int))] ∧ L1 = [H]) (o := ⟨0, none, 0, [], Nat.zero_le _, Own.nil _ _, rfl, rfl, rfl⟩) (h := ?_)
  rintro q ρ1 L1 ⟨j, aa, cc, H, hj, hown, rfl, rfl, rfl⟩
  refine aG ?_
  by_cases hlt : j < k
  · refine aT ?_ (hb := by simp; omega)
    have hnx := fill_next bs j
    by_cases hb : bs.length = 0
    · rw [if_pos hb] at hnx
      refine aF ?_ (hb := by exact gd hb)
      refine aSl (ps := [_]) ?_
      intro bt
      refine aG ?_
      refine aAp (hown) ?_
      rintro _ _ ⟨_, _, _, rfl, rfl, ho⟩
      refine aG ?_
      rw [show u8s (fill bs j) ++ [.int .u8 0] = u8s (fill bs (j + 1)) from by rw [hnx, u8s_append]; rfl] at ho
      refine aV (OpVal.add rfl rfl (i64_in _ (by omega))) ?_
      refine aR (o := ⟨k - (j + 1), by omega, j + 1, _, _, _, by omega, ho, rfl, rfl, rfl⟩)
    · rw [if_neg hb] at hnx
      refine aT ?_ (hb := by simp; omega)
      rcases hro.2 with ⟨h0, _⟩ | ⟨bx, ox, lx, ex, frx, rfl, rfl, hlx, hcx⟩
      · exact absurd h0 hb
      have hi : j % bs.length < bs.length := Nat.mod_lt _ (by omega)
      have hld := u8_at hlx hcx hi
      have hg : bs.getD (j % bs.length) 0 = bs[j % bs.length] := by rw [List.getD_eq_getElem?_getD, List.getElem?_eq_getElem hi, Option.getD_some]
      rw [hg] at hnx
      have em : (j : Int).tmod (bs.length : Int) = ((j % bs.length : Nat) : Int) := rfl
      generalize bs[j % bs.length] = x at hld hnx
      generalize j % bs.length = i at hi hld em
      refine aV (OpVal.rem rfl rfl (by omega) em) ?_
      refine aV (OpVal.ixSl tab_ok rfl rfl rfl rfl rfl hi) ?_
      refine aV (OpVal.load tab_ok rfl (at_ro 0 rfl) hld) ?_
      refine aSl (ps := [_]) ?_
      intro bt
      refine aG ?_
      refine aAp (hown) ?_
      rintro _ _ ⟨_, _, _, rfl, rfl, ho⟩
      refine aG ?_
      rw [show u8s (fill bs j) ++ [.int .u8 x] = u8s (fill bs (j + 1)) from by rw [hnx, u8s_append]; rfl] at ho
      refine aV (OpVal.add rfl rfl (i64_in _ (by omega))) ?_
      refine aR (o := ⟨k - (j + 1), by omega, j + 1, _, _, _, by omega, ho, rfl, rfl, rfl⟩)
  · refine aF ?_ (hb := by simp; omega)
    have hjk : j = k := by omega
    subst hjk
    refine W.ret (fin _ _ (FinOk.first 1 (.tmp rfl .nil) rfl ?_))
    exact ⟨aa, cc, H, rfl, rfl, hown⟩
end Go.Proofs.Ytpimbaphenignaa
