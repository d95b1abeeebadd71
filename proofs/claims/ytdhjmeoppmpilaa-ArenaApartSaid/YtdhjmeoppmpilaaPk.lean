/-
  The document's Few, Fill, Bytes: bytes made of any.
-/
import Derived.Test.YtdhjmeoppmpilaaAr
import Derived.Test.YtdhjmeoppmpilaaSt
import Derived.Test.YtdhjmeoppmpilaaLw
namespace Go.Proofs.Ytdhjmeoppmpilaa
open Go Go.Sl Go.IntWalk
set_option maxHeartbeats 4000000
set_option maxRecDepth 20000
/-! Short names, for texts whose bytes count. -/
theorem lb {m n : Nat} (h : Nat.ble m n = true) : m ≤ n := Nat.le_of_ble_eq_true h
theorem dt {p : Prop} [Decidable p] (h : p) : decide p = true := decide_eq_true h
theorem df {p : Prop} [Decidable p] (h : ¬ p) : decide p = false := decide_eq_false h
theorem oh {R : HL} {L : List HL} {b : Nat} {o : Obj} : At R ([(b, o)] :: L) b o := at_own 0 rfl
theorem ot {R : HL} {c : HL} {L : List HL} {b : Nat} {o : Obj} (h : At R L b o) : At R (c :: L) b o := h.imp (fun h => List.mem_append.2 (.inr h)) id
theorem rh {R : HL} {L : List HL} {b : Nat} {o : Obj} : At ((b, o) :: R) L b o := at_ro 0 rfl
theorem rt {R : HL} {q : Nat × Obj} {L : List HL} {b : Nat} {o : Obj} (h : At R L b o) : At (q :: R) L b o := h.imp id (List.mem_cons_of_mem _)
theorem u8_at {l : List Value} {off : Nat} {xs : List Int} (hl : off + xs.length * 1 ≤ l.length) (h : (l.drop off).take (xs.length * 1) = u8s xs) {i : Nat} (hi : i < xs.length) :
    l[off + i * 1]? = some (.int .u8 xs[i]) := by
  have h1 := RoSl.elem (f := fun x => [Value.int .u8 x]) (m := 1) (fun _ => rfl) hl h hi
  obtain ⟨h2, h3⟩ := seg?_eq _ _ _ h1
  have h4 := congrArg (fun l => l[0]?) h3
  simp only [List.getElem?_cons_zero] at h4
  rw [List.getElem?_take, if_pos (by decide), List.getElem?_drop] at h4
  simpa using h4.symm
theorem Few_spec (bs : List Int) (a : Option Addr) (cap : Nat) (hcap : bs.length ≤ cap) (ro : HL) (hro : RoSl 1 (u8s bs) a bs.length ro) (m : Int) (h0 : 0 ≤ m) (h1 : m ≤ 1000) :
    Ctr Try.prog 38 [.slice a bs.length cap, .int .i64 m] [] ro (fun v L' => ∃ a' cap' H, v = .slice a' (bs.take m.toNat).length cap' ∧ L' = [H] ∧ Own 1 5 (u8s (bs.take m.toNat)) a' (bs.take m.toNat).length cap' H) := by
  obtain ⟨k, rfl⟩ : ∃ k : Nat, m = (k : Int) := ⟨m.toNat, by omega⟩
  have hmin : (if (k : Int) < (bs.length : Int) then (k : Int) else (bs.length : Int)) = ((min bs.length k : Nat) : Int) := by split <;> omega
  have hro2 : RoSl 1 (u8s (bs.take (min bs.length k))) a (min bs.length k) ro := RoSl.take (f := fun x => [Value.int .u8 x]) (fun _ => rfl) hro _ (by omega)
  have e1 : bs.take (min bs.length k) = bs.take k := by rw [List.take_eq_take_iff]; omega
  have e2 : (bs.take k).length = min bs.length k := by rw [List.length_take]; omega
  rw [e1] at hro2
  rw [Int.toNat_natCast, e2]
  refine Ctr.enter (n := 14) [.tmp 4] [(0, _), (1, _)] Try.func38 rfl rfl rfl (Nat.le_of_ble_eq_true rfl) Try.call38 ⟨rfl, rfl, trivial⟩ ?_
  intro cx fin fin0
  refine W.step tab_ok rfl rfl ?_
  refine W.val (OpVal.min2 rfl rfl) (by exact Nat.le_of_ble_eq_true rfl) (W.step tab_ok rfl rfl ?_)
  refine W.val (OpVal.front tab_ok rfl rfl rfl rfl hmin (by omega)) (by exact Nat.le_of_ble_eq_true rfl) (W.step tab_ok rfl rfl ?_)
  refine W.nilChunk ?_
  refine W.prim (appRo tab_ok rfl rfl rfl (Own.nil 1 5) (fun _ h => by cases h) rfl hro2 (fun p hp => .inr hp) (u8s_one _) (by omega) (by omega)) (by repeat (first | exact Sel.nil | (apply Sel.cons; (repeat (first | exact Pick.here | apply Pick.there))))) (by exact Nat.le_of_ble_eq_true rfl) ?_
  rintro _ _ ⟨a', cap', H', rfl, rfl, ho⟩
  refine W.step tab_ok rfl rfl ?_
  refine W.ret (fin _ _ (FinOk.first 1 (.tmp rfl .nil) rfl ?_))
  rw [Nat.zero_add] at ho ⊢
  exact ⟨a', cap', H', rfl, rfl, ho⟩
/-- 32 bytes, made of any. -/
def fill (bs : List Int) (n : Nat) : List Int := (List.range n).map fun i => if bs.length = 0 then 0 else bs.getD (i % bs.length) 0
theorem fill_next (bs : List Int) (n : Nat) : fill bs (n + 1) = fill bs n ++ [if bs.length = 0 then 0 else bs.getD (n % bs.length) 0] := by simp [fill, List.range_succ]
theorem fill_len (bs : List Int) (n : Nat) : (fill bs n).length = n := by simp [fill]
theorem fill_ok {bs : List Int} (h : u8ok bs) (n : Nat) : u8ok (fill bs n) := by
  intro x hx
  obtain ⟨i, _, rfl⟩ := List.mem_map.1 hx
  split
  · omega
  · rw [List.getD_eq_getElem?_getD, List.getElem?_eq_getElem (Nat.mod_lt _ (by omega)), Option.getD_some]
    exact h _ (List.getElem_mem _)
theorem Fill_spec (bs : List Int) (a : Option Addr) (cap : Nat) (ro : HL) (hro : RoSl 1 (u8s bs) a bs.length ro) (m : Int) (h0 : 0 ≤ m) (h1 : m ≤ 1000) :
    Ctr Try.prog 49 [.slice a bs.length cap, .int .i64 m] [] ro (fun v L' => ∃ a' cap' H, v = .slice a' m.toNat cap' ∧ L' = [H] ∧ Own 1 5 (u8s (fill bs m.toNat)) a' m.toNat cap' H) := by
  obtain ⟨k, rfl⟩ : ∃ k : Nat, m = (k : Int) := ⟨m.toNat, by omega⟩
  rw [Int.toNat_natCast]
  refine Ctr.enter (n := 29) [.tmp 4] [(0, _), (1, _)] Try.func49 rfl rfl rfl (Nat.le_of_ble_eq_true rfl) Try.call49 ⟨rfl, rfl, trivial⟩ ?_
  intro cx fin fin0
  refine W.step tab_ok rfl rfl ?_
  refine W.nilChunk ?_
  refine W.loop (fun q ρ1 L1 => ∃ (j : Nat) (aa : Option Addr) (cc : Nat) (H : HL), j ≤ k ∧ Own 1 5 (u8s (fill bs j)) aa j cc H ∧ q = k - j ∧ ρ1 = [(6, .int .i64 (j : Int)), (5, .slice aa j cc), (0, .slice a bs.length cap), (1, .int .i64 (k : Int))] ∧ L1 = [H]) _ _ _ (by repeat (first | exact trivial | refine ⟨rfl, ?_⟩)) (by repeat (first | exact Sel.nil | (apply Sel.cons; (repeat (first | exact Pick.here | apply Pick.there))))) (⟨0, none, 0, [], Nat.zero_le _, Own.nil _ _, rfl, rfl, rfl⟩) ?_
  rintro q ρ1 L1 ⟨j, aa, cc, H, hj, hown, rfl, rfl, rfl⟩
  refine W.step tab_ok rfl rfl ?_
  by_cases hlt : j < k
  · refine W.iteT rfl (by simp; omega) (W.step tab_ok rfl rfl ?_)
    have hnx := fill_next bs j
    by_cases hb : bs.length = 0
    · rw [if_pos hb] at hnx
      refine W.iteF rfl (by simp [hb]) (W.step tab_ok rfl rfl ?_)
      refine W.slit (ps := [_]) tab_ok rfl rfl rfl rfl rfl rfl rfl (by repeat (first | exact trivial | refine ⟨⟨_, _, _, rfl, rfl, rfl⟩, ?_⟩)) rfl (by exact Nat.le_of_ble_eq_true rfl) (by exact Nat.le_of_ble_eq_true rfl) ?_
      intro bt
      refine W.step tab_ok rfl rfl ?_
      refine W.prim (app tab_ok rfl rfl rfl (hown) (by intro p hp; simp [hp]) rfl (by first | exact at_own 0 rfl | exact at_own 1 rfl | exact at_own 2 rfl | exact at_own 3 rfl | exact at_own 4 rfl | exact at_own 5 rfl | exact at_own 6 rfl | exact at_own 7 rfl | exact at_own 8 rfl | exact at_own 9 rfl | exact at_own 10 rfl | exact at_own 11 rfl | exact at_ro 0 rfl | exact at_ro 1 rfl | exact at_ro 2 rfl | exact at_ro 3 rfl | exact at_ro 4 rfl | exact at_ro 5 rfl) rfl rfl (by omega) (by omega)) (by repeat (first | exact Sel.nil | (apply Sel.cons; (repeat (first | exact Pick.here | apply Pick.there))))) (by exact Nat.le_of_ble_eq_true rfl) ?_
      rintro _ _ ⟨_, _, _, rfl, rfl, ho⟩
      refine W.step tab_ok rfl rfl ?_
      rw [show u8s (fill bs j) ++ [.int .u8 0] = u8s (fill bs (j + 1)) from by rw [hnx, u8s_append]; rfl] at ho
      refine W.val (OpVal.add rfl rfl (i64_in _ (by omega))) (by exact Nat.le_of_ble_eq_true rfl) (W.step tab_ok rfl rfl ?_)
      refine W.rnd _ _ (by repeat (first | exact trivial | refine ⟨rfl, ?_⟩)) (by repeat (first | exact Sel.nil | (apply Sel.cons; (repeat (first | exact Pick.here | apply Pick.there))))) (⟨k - (j + 1), by omega, j + 1, _, _, _, by omega, ho, rfl, rfl, rfl⟩)
    · rw [if_neg hb] at hnx
      refine W.iteT rfl (by simp; omega) (W.step tab_ok rfl rfl ?_)
      rcases hro.2 with ⟨h0, _⟩ | ⟨bx, ox, lx, ex, frx, rfl, rfl, hlx, hcx⟩
      · exact absurd h0 hb
      have hi : j % bs.length < bs.length := Nat.mod_lt _ (by omega)
      have hld := u8_at hlx hcx hi
      have hg : bs.getD (j % bs.length) 0 = bs[j % bs.length] := by rw [List.getD_eq_getElem?_getD, List.getElem?_eq_getElem hi, Option.getD_some]
      rw [hg] at hnx
      have em : (j : Int).tmod (bs.length : Int) = ((j % bs.length : Nat) : Int) := rfl
      generalize bs[j % bs.length] = x at hld hnx
      generalize j % bs.length = i at hi hld em
      refine W.val (OpVal.rem rfl rfl (by omega) em) (by exact Nat.le_of_ble_eq_true rfl) (W.step tab_ok rfl rfl ?_)
      refine W.val (OpVal.ixSl tab_ok rfl rfl rfl rfl rfl hi) (by exact Nat.le_of_ble_eq_true rfl) (W.step tab_ok rfl rfl ?_)
      refine W.val (OpVal.load tab_ok rfl (at_ro 0 rfl) hld) (by exact Nat.le_of_ble_eq_true rfl) (W.step tab_ok rfl rfl ?_)
      refine W.slit (ps := [_]) tab_ok rfl rfl rfl rfl rfl rfl rfl (by repeat (first | exact trivial | refine ⟨⟨_, _, _, rfl, rfl, rfl⟩, ?_⟩)) rfl (by exact Nat.le_of_ble_eq_true rfl) (by exact Nat.le_of_ble_eq_true rfl) ?_
      intro bt
      refine W.step tab_ok rfl rfl ?_
      refine W.prim (app tab_ok rfl rfl rfl (hown) (by intro p hp; simp [hp]) rfl (by first | exact at_own 0 rfl | exact at_own 1 rfl | exact at_own 2 rfl | exact at_own 3 rfl | exact at_own 4 rfl | exact at_own 5 rfl | exact at_own 6 rfl | exact at_own 7 rfl | exact at_own 8 rfl | exact at_own 9 rfl | exact at_own 10 rfl | exact at_own 11 rfl | exact at_ro 0 rfl | exact at_ro 1 rfl | exact at_ro 2 rfl | exact at_ro 3 rfl | exact at_ro 4 rfl | exact at_ro 5 rfl) rfl rfl (by omega) (by omega)) (by repeat (first | exact Sel.nil | (apply Sel.cons; (repeat (first | exact Pick.here | apply Pick.there))))) (by exact Nat.le_of_ble_eq_true rfl) ?_
      rintro _ _ ⟨_, _, _, rfl, rfl, ho⟩
      refine W.step tab_ok rfl rfl ?_
      rw [show u8s (fill bs j) ++ [.int .u8 x] = u8s (fill bs (j + 1)) from by rw [hnx, u8s_append]; rfl] at ho
      refine W.val (OpVal.add rfl rfl (i64_in _ (by omega))) (by exact Nat.le_of_ble_eq_true rfl) (W.step tab_ok rfl rfl ?_)
      refine W.rnd _ _ (by repeat (first | exact trivial | refine ⟨rfl, ?_⟩)) (by repeat (first | exact Sel.nil | (apply Sel.cons; (repeat (first | exact Pick.here | apply Pick.there))))) (⟨k - (j + 1), by omega, j + 1, _, _, _, by omega, ho, rfl, rfl, rfl⟩)
  · refine W.iteF rfl (by simp; omega) (W.step tab_ok rfl rfl ?_)
    have hjk : j = k := by omega
    subst hjk
    refine W.ret (fin _ _ (FinOk.first 1 (.tmp rfl .nil) rfl ?_))
    exact ⟨aa, cc, H, rfl, rfl, hown⟩
end Go.Proofs.Ytdhjmeoppmpilaa
