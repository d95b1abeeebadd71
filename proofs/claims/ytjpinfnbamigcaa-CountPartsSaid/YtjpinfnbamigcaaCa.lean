/-
  What the functions of the layer of counters compute: contracts of count.Name, of, together, Add, Get, and of the document's answer.
-/
import Derived.Test.YtjpinfnbamigcaaTab
namespace Go.Proofs.Ytjpinfnbamigcaa
open Go Go.Sl Go.IntWalk
set_option maxHeartbeats 1000000
def nameOf (k : Int) : ByteArray :=
  if k = 0 then ⟨#[104, 105, 116, 115]⟩ else if k = 1 then ⟨#[109, 105, 115, 115, 101, 115]⟩ else if k = 2 then ⟨#[101, 118, 105, 99, 116, 115]⟩ else if k = 3 then ⟨#[114, 101, 97, 100, 115]⟩
  else if k = 4 then ⟨#[119, 114, 105, 116, 101, 115]⟩ else if k = 5 then ⟨#[102, 97, 105, 108, 115]⟩ else ⟨#[]⟩
theorem Name_spec (k : Int) : Ctr Try.prog 9 [.int .i64 k] [] [] (fun v L' => v = .string (nameOf k) ∧ L' = []) := by
  refine Ctr.enter (n := 12) [.tmp 2] [(0, _)] Try.func9 rfl rfl rfl (Nat.le_of_ble_eq_true rfl) Try.call9 ⟨rfl, trivial⟩ ?_
  intro cx fin fin0
  refine W.step tab_ok rfl rfl ?_
  by_cases h : k < 0
  · refine W.guardSkip rfl rfl (by simp [h]) (by decide) (W.step tab_ok rfl rfl ?_)
    refine W.guardSkip rfl rfl (by simp [h]) (by decide) (W.step tab_ok rfl rfl ?_)
    refine W.val (OpVal.pickT rfl (by simp [h]) rfl) (by decide) (W.step tab_ok rfl rfl ?_)
    refine W.iteT rfl (by rfl) (W.step tab_ok rfl rfl ?_)
    refine W.ret (fin _ _ (FinOk.mk' ([]) (.tmp rfl .nil) (by repeat (first | exact Sel.nil | (apply Sel.cons; (repeat (first | exact Pick.here | apply Pick.there))))) rfl ?_))
    refine ⟨?_, rfl⟩
    simp [nameOf, pack]
    repeat rw [if_neg (by omega)]
  · refine W.guardGo rfl rfl (by simp [h]) (W.step tab_ok rfl rfl ?_)
    refine W.guardGo rfl rfl (by simp [h]) (W.step tab_ok rfl rfl ?_)
    refine W.val (OpVal.pickF rfl (by simp [h]) rfl) (by decide) (W.step tab_ok rfl rfl ?_)
    refine W.ite rfl (fun h2 => W.step tab_ok rfl rfl ?_) (fun h2 => W.step tab_ok rfl rfl ?_)
    · simp at h2
      refine W.ret (fin _ _ (FinOk.mk' ([]) (.tmp rfl .nil) (by repeat (first | exact Sel.nil | (apply Sel.cons; (repeat (first | exact Pick.here | apply Pick.there))))) rfl ?_))
      refine ⟨?_, rfl⟩
      simp [nameOf, pack]
      repeat rw [if_neg (by omega)]
    · simp at h2
      refine W.val (OpVal.build (ps := [_, _, _, _, _, _]) tab_ok rfl rfl rfl rfl (by repeat (first | exact trivial | refine ⟨⟨_, _, _, rfl, rfl, rfl⟩, ?_⟩)) rfl) (by decide) (W.step tab_ok rfl rfl ?_)
      have hk : k = 0 ∨ k = 1 ∨ k = 2 ∨ k = 3 ∨ k = 4 ∨ k = 5 := by omega
      rcases hk with rfl | rfl | rfl | rfl | rfl | rfl
      all_goals
        refine W.val (OpVal.ix1 tab_ok rfl rfl rfl rfl rfl (by decide) rfl) (by decide) (W.step tab_ok rfl rfl ?_)
        refine W.ret (fin _ _ (FinOk.mk' ([]) (.tmp rfl .nil) (by repeat (first | exact Sel.nil | (apply Sel.cons; (repeat (first | exact Pick.here | apply Pick.there))))) rfl ?_))
        exact ⟨rfl, rfl⟩

def inKind (k : Int) : Bool := decide (0 ≤ k ∧ k < 6)
theorem of_no (a : Option Addr) (k : Int) (h : ¬ (0 ≤ k ∧ k < 6)) : Ctr Try.prog 19 [.pointer a, .int .i64 k] [] [] (fun v L' => v = .pointer none ∧ L' = []) := by
  refine Ctr.enter (n := 32) [.tmp 4] [(0, _), (1, _)] Try.func19 rfl rfl rfl (Nat.le_of_ble_eq_true rfl) Try.call19 ⟨rfl, rfl, trivial⟩ ?_
  intro cx fin fin0
  refine W.step tab_ok rfl rfl ?_
  by_cases h0 : k < 0
  · refine W.guardSkip rfl rfl (by simp [h0]) (by decide) (W.step tab_ok rfl rfl ?_)
    refine W.guardSkip rfl rfl (by simp [h0]) (by decide) (W.step tab_ok rfl rfl ?_)
    refine W.val (OpVal.pickT rfl (by simp [h0]) rfl) (by decide) (W.step tab_ok rfl rfl ?_)
    refine W.iteT rfl (by rfl) (W.step tab_ok rfl rfl ?_)
    refine W.ret (fin _ _ (FinOk.mk' ([]) (.tmp rfl .nil) (by repeat (first | exact Sel.nil | (apply Sel.cons; (repeat (first | exact Pick.here | apply Pick.there))))) rfl ?_))
    exact ⟨rfl, rfl⟩
  · refine W.guardGo rfl rfl (by simp [h0]) (W.step tab_ok rfl rfl ?_)
    refine W.guardGo rfl rfl (by simp [h0]) (W.step tab_ok rfl rfl ?_)
    refine W.val (OpVal.pickF rfl (by simp [h0]) rfl) (by decide) (W.step tab_ok rfl rfl ?_)
    refine W.iteT rfl (by simp; omega) (W.step tab_ok rfl rfl ?_)
    refine W.ret (fin _ _ (FinOk.mk' ([]) (.tmp rfl .nil) (by repeat (first | exact Sel.nil | (apply Sel.cons; (repeat (first | exact Pick.here | apply Pick.there))))) rfl ?_))
    exact ⟨rfl, rfl⟩
theorem of_yes (b : Nat) (j : Nat) (h : j < 6) : Ctr Try.prog 19 [.pointer (some ⟨b, 0, none⟩), .int .i64 (j : Int)] [] [] (fun v L' => v = .pointer (some ⟨b, j, none⟩) ∧ L' = []) := by
  have h0 : ¬ ((j : Int) < 0) := by omega
  refine Ctr.enter (n := 32) [.tmp 4] [(0, _), (1, _)] Try.func19 rfl rfl rfl (Nat.le_of_ble_eq_true rfl) Try.call19 ⟨rfl, rfl, trivial⟩ ?_
  intro cx fin fin0
  refine W.step tab_ok rfl rfl ?_
  refine W.guardGo rfl rfl (by simp [h0]) (W.step tab_ok rfl rfl ?_)
  refine W.guardGo rfl rfl (by simp [h0]) (W.step tab_ok rfl rfl ?_)
  refine W.val (OpVal.pickF rfl (by simp [h0]) rfl) (by decide) (W.step tab_ok rfl rfl ?_)
  refine W.iteF rfl (by simp; omega) (W.step tab_ok rfl rfl ?_)
  refine W.draw follows (by decide +kernel) (WZ.drive tab_ok rfl ?_)
  refine WZ.val (OpVal.build (ps := [_, _, _, _, _, _]) tab_ok rfl rfl rfl rfl (by repeat (first | exact trivial | refine ⟨⟨_, _, _, rfl, rfl, rfl⟩, ?_⟩)) rfl) (by decide) (WZ.drive tab_ok rfl ?_)
  have hk : j = 0 ∨ j = 1 ∨ j = 2 ∨ j = 3 ∨ j = 4 ∨ j = 5 := by omega
  rcases hk with rfl | rfl | rfl | rfl | rfl | rfl
  all_goals
    refine WZ.val (OpVal.ix1 tab_ok rfl rfl rfl rfl rfl (by decide) rfl) (by decide) (WZ.drive tab_ok rfl ?_)
    refine WZ.nil (W.step tab_ok rfl rfl ?_)
    refine W.ret (fin _ _ (FinOk.mk' ([]) (.tmp rfl .nil) (by repeat (first | exact Sel.nil | (apply Sel.cons; (repeat (first | exact Pick.here | apply Pick.there))))) rfl ?_))
    exact ⟨rfl, rfl⟩

/-! ### Two numbers together -/
def tog (a b : Int) : Int := if a + b < 18446744073709551616 then a + b else 18446744073709551615
theorem add64_run (a b : Int) (ha : 0 ≤ a) (hb : 0 ≤ b) (w : World) : (callFunc 21 #[.int .u64 a, .int .u64 b, .int .u64 0]).run Try.prog w =
    .ok (.value (.tuple #[.int .u64 ((a + b + 0) % 18446744073709551616), .int .u64 ((a + b + 0) / 18446744073709551616)])) w := by
  have hfind : Extern.find Try.f21 = some add64Entry := by kernel_rfl
  have hnext : Extern.findNext Try.f21 = none := by kernel_rfl
  have hname : (Try.f21.name == "runtime.NumGoroutine") = false := by kernel_rfl
  have hbody : Try.f21.body.isNone = true := by kernel_rfl
  unfold callFunc
  simp only [Sem.run_bind, run_program, Result.andThen_ok, Try.func21, hname, hbody, hfind, hnext, Bool.false_eq_true, if_false, if_true, run_mark, run_add64 a b 0 ha hb (by omega) (by omega)]
  rfl
theorem together_spec (a b : Int) (ha : 0 ≤ a ∧ a < 18446744073709551616) (hb : 0 ≤ b ∧ b < 18446744073709551616) :
    Ctr Try.prog 20 [.int .u64 a, .int .u64 b] [] [] (fun v L' => v = .int .u64 (tog a b) ∧ L' = []) := by
  refine Ctr.enter (n := 16) [.tmp 4] [(0, _), (1, _)] Try.func20 rfl rfl rfl (Nat.le_of_ble_eq_true rfl) Try.call20 ⟨rfl, rfl, trivial⟩ ?_
  intro cx fin fin0
  refine W.step tab_ok rfl rfl ?_
  refine W.val (OpVal.callX (vs := [_, _, _]) rfl rfl rfl (add64_run a b ha.1 hb.1)) (by decide) (W.step tab_ok rfl rfl ?_)
  by_cases h : a + b < 18446744073709551616
  · refine W.iteF rfl (by simp; omega) (W.step tab_ok rfl rfl ?_)
    refine W.ret (fin _ _ (FinOk.mk' ([]) (.tmp rfl .nil) (by repeat (first | exact Sel.nil | (apply Sel.cons; (repeat (first | exact Pick.here | apply Pick.there))))) rfl ?_))
    refine ⟨?_, rfl⟩
    simp only [pack, tog, if_pos h]
    congr 1
    omega
  · refine W.iteT rfl (by simp; omega) (W.step tab_ok rfl rfl ?_)
    refine W.ret (fin _ _ (FinOk.mk' ([]) (.tmp rfl .nil) (by repeat (first | exact Sel.nil | (apply Sel.cons; (repeat (first | exact Pick.here | apply Pick.there))))) rfl ?_))
    refine ⟨?_, rfl⟩
    simp only [pack, tog, if_neg h]
theorem Together_spec (a b : Int) (ha : 0 ≤ a ∧ a < 18446744073709551616) (hb : 0 ≤ b ∧ b < 18446744073709551616) :
    Ctr Try.prog 16 [.int .u64 a, .int .u64 b] [] [] (fun v L' => v = .int .u64 (tog a b) ∧ L' = []) := by
  refine Ctr.enter (n := 12) [.tmp 4] [(0, _), (1, _)] Try.func16 rfl rfl rfl (Nat.le_of_ble_eq_true rfl) Try.call16 ⟨rfl, rfl, trivial⟩ ?_
  intro cx fin fin0
  refine W.step tab_ok rfl rfl ?_
  refine W.val (OpVal.sub rfl rfl (u64_in _ (by omega))) (by decide) (W.step tab_ok rfl rfl ?_)
  by_cases h : a + b < 18446744073709551616
  · refine W.iteF rfl (by simp; omega) (W.step tab_ok rfl rfl ?_)
    refine W.val (OpVal.add rfl rfl (u64_in _ (by omega))) (by decide) (W.step tab_ok rfl rfl ?_)
    refine W.ret (fin _ _ (FinOk.mk' ([]) (.tmp rfl .nil) (by repeat (first | exact Sel.nil | (apply Sel.cons; (repeat (first | exact Pick.here | apply Pick.there))))) rfl ?_))
    refine ⟨?_, rfl⟩
    simp only [pack, tog, if_pos h]
  · refine W.iteT rfl (by simp; omega) (W.step tab_ok rfl rfl ?_)
    refine W.ret (fin _ _ (FinOk.mk' ([]) (.tmp rfl .nil) (by repeat (first | exact Sel.nil | (apply Sel.cons; (repeat (first | exact Pick.here | apply Pick.there))))) rfl ?_))
    refine ⟨?_, rfl⟩
    simp only [pack, tog, if_neg h]
theorem tog_range {a b : Int} (ha : 0 ≤ a ∧ a < 18446744073709551616) (hb : 0 ≤ b ∧ b < 18446744073709551616) : 0 ≤ tog a b ∧ tog a b < 18446744073709551616 := by
  unfold tog; split <;> omega

/-! ### Counts: six numbers -/
structure C6 where
  (h m e r w f : Int)
  deriving DecidableEq
def C6.l (c : C6) : List Value := [.int .u64 c.h, .int .u64 c.m, .int .u64 c.e, .int .u64 c.r, .int .u64 c.w, .int .u64 c.f]
def C6.v (c : C6) : Value := .agg #[.int .u64 c.h, .int .u64 c.m, .int .u64 c.e, .int .u64 c.r, .int .u64 c.w, .int .u64 c.f]
def u64 (a : Int) : Prop := 0 ≤ a ∧ a < 18446744073709551616
def C6.Ok (c : C6) : Prop := u64 c.h ∧ u64 c.m ∧ u64 c.e ∧ u64 c.r ∧ u64 c.w ∧ u64 c.f
def C6.add (c : C6) (k : Int) (n : Int) : C6 :=
  if k = 0 then { c with h := tog c.h n } else if k = 1 then { c with m := tog c.m n } else if k = 2 then { c with e := tog c.e n }
  else if k = 3 then { c with r := tog c.r n } else if k = 4 then { c with w := tog c.w n } else if k = 5 then { c with f := tog c.f n } else c
def C6.get (c : C6) (k : Int) : Int × Bool :=
  if k = 0 then (c.h, true) else if k = 1 then (c.m, true) else if k = 2 then (c.e, true) else if k = 3 then (c.r, true) else if k = 4 then (c.w, true) else if k = 5 then (c.f, true) else (0, false)
theorem C6.add_ok {c : C6} (hc : c.Ok) (k : Int) {n : Int} (hn : u64 n) : (c.add k n).Ok := by
  obtain ⟨h1, h2, h3, h4, h5, h6⟩ := hc
  unfold C6.add
  repeat' split
  all_goals exact ⟨by first | exact tog_range h1 hn | assumption, by first | exact tog_range h2 hn | assumption, by first | exact tog_range h3 hn | assumption, by first | exact tog_range h4 hn | assumption,
    by first | exact tog_range h5 hn | assumption, by first | exact tog_range h6 hn | assumption⟩
theorem C6.get_u64 {c : C6} (hc : c.Ok) (k : Int) : u64 (c.get k).1 := by
  obtain ⟨h1, h2, h3, h4, h5, h6⟩ := hc
  unfold C6.get
  repeat' split
  all_goals first | assumption | exact ⟨by decide, by decide⟩
theorem kinds {k : Int} (h : 0 ≤ k ∧ k < 6) : k = ((0 : Nat) : Int) ∨ k = ((1 : Nat) : Int) ∨ k = ((2 : Nat) : Int) ∨ k = ((3 : Nat) : Int) ∨ k = ((4 : Nat) : Int) ∨ k = ((5 : Nat) : Int) := by omega
theorem Add_spec (c : C6) (k n : Int) (hc : c.Ok) (hn : u64 n) : Ctr Try.prog 11 [c.v, .int .i64 k, .int .u64 n] [] [] (fun v L' => v = (c.add k n).v ∧ L' = []) := by
  obtain ⟨h1, h2, h3, h4, h5, h6⟩ := hc
  refine Ctr.enter (n := 20) [.cell 6 28] [(0, _), (1, _), (2, _)] Try.func11 rfl rfl rfl (Nat.le_of_ble_eq_true rfl) Try.call11 ⟨rfl, rfl, rfl, trivial⟩ ?_
  intro cx fin fin0
  refine W.step tab_ok rfl rfl ?_
  repeat (first | refine W.val (OpVal.load tab_ok rfl (at_own 0 rfl) rfl) (by decide) (W.step tab_ok rfl rfl ?_) | refine W.val (OpVal.load tab_ok rfl (at_own 1 rfl) rfl) (by decide) (W.step tab_ok rfl rfl ?_) | refine W.val (OpVal.load tab_ok rfl (at_own 2 rfl) rfl) (by decide) (W.step tab_ok rfl rfl ?_) | refine W.val (OpVal.load tab_ok rfl (at_own 3 rfl) rfl) (by decide) (W.step tab_ok rfl rfl ?_) | refine W.val (OpVal.load tab_ok rfl (at_own 4 rfl) rfl) (by decide) (W.step tab_ok rfl rfl ?_) | refine W.val (OpVal.load tab_ok rfl (at_own 5 rfl) rfl) (by decide) (W.step tab_ok rfl rfl ?_) | refine W.val (OpVal.load tab_ok rfl (at_own 6 rfl) rfl) (by decide) (W.step tab_ok rfl rfl ?_) | refine W.val (OpVal.load tab_ok rfl (at_own 7 rfl) rfl) (by decide) (W.step tab_ok rfl rfl ?_) | refine W.val (OpVal.load tab_ok rfl (at_own 8 rfl) rfl) (by decide) (W.step tab_ok rfl rfl ?_) | refine W.val (OpVal.load tab_ok rfl (at_own 9 rfl) rfl) (by decide) (W.step tab_ok rfl rfl ?_) | refine W.val (OpVal.load tab_ok rfl (at_own 10 rfl) rfl) (by decide) (W.step tab_ok rfl rfl ?_) | refine W.val (OpVal.load tab_ok rfl (at_own 11 rfl) rfl) (by decide) (W.step tab_ok rfl rfl ?_) | refine W.val (OpVal.load tab_ok rfl (at_ro 0 rfl) rfl) (by decide) (W.step tab_ok rfl rfl ?_) | refine W.val (OpVal.load tab_ok rfl (at_ro 1 rfl) rfl) (by decide) (W.step tab_ok rfl rfl ?_) | refine W.val (OpVal.load tab_ok rfl (at_ro 2 rfl) rfl) (by decide) (W.step tab_ok rfl rfl ?_) | refine W.val (OpVal.load tab_ok rfl (at_ro 3 rfl) rfl) (by decide) (W.step tab_ok rfl rfl ?_) | refine W.store tab_ok rfl Upd.here rfl rfl rfl rfl rfl rfl (W.step tab_ok rfl rfl ?_) | refine W.store tab_ok rfl (Upd.there Upd.here) rfl rfl rfl rfl rfl rfl (W.step tab_ok rfl rfl ?_) | refine W.store tab_ok rfl (Upd.there (Upd.there Upd.here)) rfl rfl rfl rfl rfl rfl (W.step tab_ok rfl rfl ?_) | refine W.store tab_ok rfl (Upd.there (Upd.there (Upd.there Upd.here))) rfl rfl rfl rfl rfl rfl (W.step tab_ok rfl rfl ?_) | refine W.store tab_ok rfl (Upd.there (Upd.there (Upd.there (Upd.there Upd.here)))) rfl rfl rfl rfl rfl rfl (W.step tab_ok rfl rfl ?_) | refine W.store tab_ok rfl (Upd.there (Upd.there (Upd.there (Upd.there (Upd.there Upd.here))))) rfl rfl rfl rfl rfl rfl (W.step tab_ok rfl rfl ?_) | refine W.store tab_ok rfl (Upd.there (Upd.there (Upd.there (Upd.there (Upd.there (Upd.there Upd.here)))))) rfl rfl rfl rfl rfl rfl (W.step tab_ok rfl rfl ?_) | refine W.store tab_ok rfl (Upd.there (Upd.there (Upd.there (Upd.there (Upd.there (Upd.there (Upd.there Upd.here))))))) rfl rfl rfl rfl rfl rfl (W.step tab_ok rfl rfl ?_) | refine W.store tab_ok rfl (Upd.there (Upd.there (Upd.there (Upd.there (Upd.there (Upd.there (Upd.there (Upd.there Upd.here)))))))) rfl rfl rfl rfl rfl rfl (W.step tab_ok rfl rfl ?_) | refine W.store tab_ok rfl (Upd.there (Upd.there (Upd.there (Upd.there (Upd.there (Upd.there (Upd.there (Upd.there (Upd.there Upd.here))))))))) rfl rfl rfl rfl rfl rfl (W.step tab_ok rfl rfl ?_) | refine W.store tab_ok rfl (Upd.there (Upd.there (Upd.there (Upd.there (Upd.there (Upd.there (Upd.there (Upd.there (Upd.there (Upd.there Upd.here)))))))))) rfl rfl rfl rfl rfl rfl (W.step tab_ok rfl rfl ?_) | refine W.store tab_ok rfl (Upd.there (Upd.there (Upd.there (Upd.there (Upd.there (Upd.there (Upd.there (Upd.there (Upd.there (Upd.there (Upd.there Upd.here))))))))))) rfl rfl rfl rfl rfl rfl (W.step tab_ok rfl rfl ?_) | (refine W.new tab_ok rfl rfl (by decide) ?_; intro _; refine W.step tab_ok rfl rfl ?_) | (refine W.box rfl rfl (by decide) ?_; intro _; refine W.step tab_ok rfl rfl ?_))
  by_cases hk : 0 ≤ k ∧ k < 6
  · rcases kinds hk with rfl | rfl | rfl | rfl | rfl | rfl
    all_goals
      refine W.call rfl rfl rfl rfl (of_yes _ _ (by omega)) (by repeat (first | exact Sel.nil | (apply Sel.cons; (repeat (first | exact Pick.here | apply Pick.there))))) (by repeat (first | exact RoIn.nil | exact RoIn.same | refine RoIn.cons (by first | exact at_own 0 rfl | exact at_own 1 rfl | exact at_own 2 rfl | exact at_own 3 rfl | exact at_own 4 rfl | exact at_own 5 rfl | exact at_own 6 rfl | exact at_own 7 rfl | exact at_own 8 rfl | exact at_own 9 rfl | exact at_own 10 rfl | exact at_own 11 rfl | exact at_ro 0 rfl | exact at_ro 1 rfl | exact at_ro 2 rfl | exact at_ro 3 rfl | exact at_ro 4 rfl | exact at_ro 5 rfl) ?_ | refine RoIn.append ?_ ?_ | exact RoIn.own 0 rfl | exact RoIn.own 1 rfl | exact RoIn.own 2 rfl | exact RoIn.own 3 rfl | exact RoIn.own 4 rfl | exact RoIn.own 5 rfl | exact RoIn.own 6 rfl | exact RoIn.own 7 rfl | exact RoIn.own 8 rfl | exact RoIn.own 9 rfl | exact RoIn.own 10 rfl | exact RoIn.own 11 rfl | (intro p hp; simp [hp]; done))) (by decide) ?_
      rintro _ _ ⟨rfl, rfl⟩
      refine W.step tab_ok rfl rfl ?_
      refine W.val (OpVal.neNil tab_ok rfl rfl rfl) (by decide) (W.step tab_ok rfl rfl ?_)
      refine W.iteT rfl (by rfl) (W.step tab_ok rfl rfl ?_)
      repeat (first | refine W.val (OpVal.load tab_ok rfl (at_own 0 rfl) rfl) (by decide) (W.step tab_ok rfl rfl ?_) | refine W.val (OpVal.load tab_ok rfl (at_own 1 rfl) rfl) (by decide) (W.step tab_ok rfl rfl ?_) | refine W.val (OpVal.load tab_ok rfl (at_own 2 rfl) rfl) (by decide) (W.step tab_ok rfl rfl ?_) | refine W.val (OpVal.load tab_ok rfl (at_own 3 rfl) rfl) (by decide) (W.step tab_ok rfl rfl ?_) | refine W.val (OpVal.load tab_ok rfl (at_own 4 rfl) rfl) (by decide) (W.step tab_ok rfl rfl ?_) | refine W.val (OpVal.load tab_ok rfl (at_own 5 rfl) rfl) (by decide) (W.step tab_ok rfl rfl ?_) | refine W.val (OpVal.load tab_ok rfl (at_own 6 rfl) rfl) (by decide) (W.step tab_ok rfl rfl ?_) | refine W.val (OpVal.load tab_ok rfl (at_own 7 rfl) rfl) (by decide) (W.step tab_ok rfl rfl ?_) | refine W.val (OpVal.load tab_ok rfl (at_own 8 rfl) rfl) (by decide) (W.step tab_ok rfl rfl ?_) | refine W.val (OpVal.load tab_ok rfl (at_own 9 rfl) rfl) (by decide) (W.step tab_ok rfl rfl ?_) | refine W.val (OpVal.load tab_ok rfl (at_own 10 rfl) rfl) (by decide) (W.step tab_ok rfl rfl ?_) | refine W.val (OpVal.load tab_ok rfl (at_own 11 rfl) rfl) (by decide) (W.step tab_ok rfl rfl ?_) | refine W.val (OpVal.load tab_ok rfl (at_ro 0 rfl) rfl) (by decide) (W.step tab_ok rfl rfl ?_) | refine W.val (OpVal.load tab_ok rfl (at_ro 1 rfl) rfl) (by decide) (W.step tab_ok rfl rfl ?_) | refine W.val (OpVal.load tab_ok rfl (at_ro 2 rfl) rfl) (by decide) (W.step tab_ok rfl rfl ?_) | refine W.val (OpVal.load tab_ok rfl (at_ro 3 rfl) rfl) (by decide) (W.step tab_ok rfl rfl ?_) | refine W.store tab_ok rfl Upd.here rfl rfl rfl rfl rfl rfl (W.step tab_ok rfl rfl ?_) | refine W.store tab_ok rfl (Upd.there Upd.here) rfl rfl rfl rfl rfl rfl (W.step tab_ok rfl rfl ?_) | refine W.store tab_ok rfl (Upd.there (Upd.there Upd.here)) rfl rfl rfl rfl rfl rfl (W.step tab_ok rfl rfl ?_) | refine W.store tab_ok rfl (Upd.there (Upd.there (Upd.there Upd.here))) rfl rfl rfl rfl rfl rfl (W.step tab_ok rfl rfl ?_) | refine W.store tab_ok rfl (Upd.there (Upd.there (Upd.there (Upd.there Upd.here)))) rfl rfl rfl rfl rfl rfl (W.step tab_ok rfl rfl ?_) | refine W.store tab_ok rfl (Upd.there (Upd.there (Upd.there (Upd.there (Upd.there Upd.here))))) rfl rfl rfl rfl rfl rfl (W.step tab_ok rfl rfl ?_) | refine W.store tab_ok rfl (Upd.there (Upd.there (Upd.there (Upd.there (Upd.there (Upd.there Upd.here)))))) rfl rfl rfl rfl rfl rfl (W.step tab_ok rfl rfl ?_) | refine W.store tab_ok rfl (Upd.there (Upd.there (Upd.there (Upd.there (Upd.there (Upd.there (Upd.there Upd.here))))))) rfl rfl rfl rfl rfl rfl (W.step tab_ok rfl rfl ?_) | refine W.store tab_ok rfl (Upd.there (Upd.there (Upd.there (Upd.there (Upd.there (Upd.there (Upd.there (Upd.there Upd.here)))))))) rfl rfl rfl rfl rfl rfl (W.step tab_ok rfl rfl ?_) | refine W.store tab_ok rfl (Upd.there (Upd.there (Upd.there (Upd.there (Upd.there (Upd.there (Upd.there (Upd.there (Upd.there Upd.here))))))))) rfl rfl rfl rfl rfl rfl (W.step tab_ok rfl rfl ?_) | refine W.store tab_ok rfl (Upd.there (Upd.there (Upd.there (Upd.there (Upd.there (Upd.there (Upd.there (Upd.there (Upd.there (Upd.there Upd.here)))))))))) rfl rfl rfl rfl rfl rfl (W.step tab_ok rfl rfl ?_) | refine W.store tab_ok rfl (Upd.there (Upd.there (Upd.there (Upd.there (Upd.there (Upd.there (Upd.there (Upd.there (Upd.there (Upd.there (Upd.there Upd.here))))))))))) rfl rfl rfl rfl rfl rfl (W.step tab_ok rfl rfl ?_) | (refine W.new tab_ok rfl rfl (by decide) ?_; intro _; refine W.step tab_ok rfl rfl ?_) | (refine W.box rfl rfl (by decide) ?_; intro _; refine W.step tab_ok rfl rfl ?_))
      refine W.call rfl rfl rfl rfl (together_spec _ _ (by assumption) hn) (by repeat (first | exact Sel.nil | (apply Sel.cons; (repeat (first | exact Pick.here | apply Pick.there))))) (by repeat (first | exact RoIn.nil | exact RoIn.same | refine RoIn.cons (by first | exact at_own 0 rfl | exact at_own 1 rfl | exact at_own 2 rfl | exact at_own 3 rfl | exact at_own 4 rfl | exact at_own 5 rfl | exact at_own 6 rfl | exact at_own 7 rfl | exact at_own 8 rfl | exact at_own 9 rfl | exact at_own 10 rfl | exact at_own 11 rfl | exact at_ro 0 rfl | exact at_ro 1 rfl | exact at_ro 2 rfl | exact at_ro 3 rfl | exact at_ro 4 rfl | exact at_ro 5 rfl) ?_ | refine RoIn.append ?_ ?_ | exact RoIn.own 0 rfl | exact RoIn.own 1 rfl | exact RoIn.own 2 rfl | exact RoIn.own 3 rfl | exact RoIn.own 4 rfl | exact RoIn.own 5 rfl | exact RoIn.own 6 rfl | exact RoIn.own 7 rfl | exact RoIn.own 8 rfl | exact RoIn.own 9 rfl | exact RoIn.own 10 rfl | exact RoIn.own 11 rfl | (intro p hp; simp [hp]; done))) (by decide) ?_
      rintro _ _ ⟨rfl, rfl⟩
      refine W.step tab_ok rfl rfl ?_
      repeat (first | refine W.val (OpVal.load tab_ok rfl (at_own 0 rfl) rfl) (by decide) (W.step tab_ok rfl rfl ?_) | refine W.val (OpVal.load tab_ok rfl (at_own 1 rfl) rfl) (by decide) (W.step tab_ok rfl rfl ?_) | refine W.val (OpVal.load tab_ok rfl (at_own 2 rfl) rfl) (by decide) (W.step tab_ok rfl rfl ?_) | refine W.val (OpVal.load tab_ok rfl (at_own 3 rfl) rfl) (by decide) (W.step tab_ok rfl rfl ?_) | refine W.val (OpVal.load tab_ok rfl (at_own 4 rfl) rfl) (by decide) (W.step tab_ok rfl rfl ?_) | refine W.val (OpVal.load tab_ok rfl (at_own 5 rfl) rfl) (by decide) (W.step tab_ok rfl rfl ?_) | refine W.val (OpVal.load tab_ok rfl (at_own 6 rfl) rfl) (by decide) (W.step tab_ok rfl rfl ?_) | refine W.val (OpVal.load tab_ok rfl (at_own 7 rfl) rfl) (by decide) (W.step tab_ok rfl rfl ?_) | refine W.val (OpVal.load tab_ok rfl (at_own 8 rfl) rfl) (by decide) (W.step tab_ok rfl rfl ?_) | refine W.val (OpVal.load tab_ok rfl (at_own 9 rfl) rfl) (by decide) (W.step tab_ok rfl rfl ?_) | refine W.val (OpVal.load tab_ok rfl (at_own 10 rfl) rfl) (by decide) (W.step tab_ok rfl rfl ?_) | refine W.val (OpVal.load tab_ok rfl (at_own 11 rfl) rfl) (by decide) (W.step tab_ok rfl rfl ?_) | refine W.val (OpVal.load tab_ok rfl (at_ro 0 rfl) rfl) (by decide) (W.step tab_ok rfl rfl ?_) | refine W.val (OpVal.load tab_ok rfl (at_ro 1 rfl) rfl) (by decide) (W.step tab_ok rfl rfl ?_) | refine W.val (OpVal.load tab_ok rfl (at_ro 2 rfl) rfl) (by decide) (W.step tab_ok rfl rfl ?_) | refine W.val (OpVal.load tab_ok rfl (at_ro 3 rfl) rfl) (by decide) (W.step tab_ok rfl rfl ?_) | refine W.store tab_ok rfl Upd.here rfl rfl rfl rfl rfl rfl (W.step tab_ok rfl rfl ?_) | refine W.store tab_ok rfl (Upd.there Upd.here) rfl rfl rfl rfl rfl rfl (W.step tab_ok rfl rfl ?_) | refine W.store tab_ok rfl (Upd.there (Upd.there Upd.here)) rfl rfl rfl rfl rfl rfl (W.step tab_ok rfl rfl ?_) | refine W.store tab_ok rfl (Upd.there (Upd.there (Upd.there Upd.here))) rfl rfl rfl rfl rfl rfl (W.step tab_ok rfl rfl ?_) | refine W.store tab_ok rfl (Upd.there (Upd.there (Upd.there (Upd.there Upd.here)))) rfl rfl rfl rfl rfl rfl (W.step tab_ok rfl rfl ?_) | refine W.store tab_ok rfl (Upd.there (Upd.there (Upd.there (Upd.there (Upd.there Upd.here))))) rfl rfl rfl rfl rfl rfl (W.step tab_ok rfl rfl ?_) | refine W.store tab_ok rfl (Upd.there (Upd.there (Upd.there (Upd.there (Upd.there (Upd.there Upd.here)))))) rfl rfl rfl rfl rfl rfl (W.step tab_ok rfl rfl ?_) | refine W.store tab_ok rfl (Upd.there (Upd.there (Upd.there (Upd.there (Upd.there (Upd.there (Upd.there Upd.here))))))) rfl rfl rfl rfl rfl rfl (W.step tab_ok rfl rfl ?_) | refine W.store tab_ok rfl (Upd.there (Upd.there (Upd.there (Upd.there (Upd.there (Upd.there (Upd.there (Upd.there Upd.here)))))))) rfl rfl rfl rfl rfl rfl (W.step tab_ok rfl rfl ?_) | refine W.store tab_ok rfl (Upd.there (Upd.there (Upd.there (Upd.there (Upd.there (Upd.there (Upd.there (Upd.there (Upd.there Upd.here))))))))) rfl rfl rfl rfl rfl rfl (W.step tab_ok rfl rfl ?_) | refine W.store tab_ok rfl (Upd.there (Upd.there (Upd.there (Upd.there (Upd.there (Upd.there (Upd.there (Upd.there (Upd.there (Upd.there Upd.here)))))))))) rfl rfl rfl rfl rfl rfl (W.step tab_ok rfl rfl ?_) | refine W.store tab_ok rfl (Upd.there (Upd.there (Upd.there (Upd.there (Upd.there (Upd.there (Upd.there (Upd.there (Upd.there (Upd.there (Upd.there Upd.here))))))))))) rfl rfl rfl rfl rfl rfl (W.step tab_ok rfl rfl ?_) | (refine W.new tab_ok rfl rfl (by decide) ?_; intro _; refine W.step tab_ok rfl rfl ?_) | (refine W.box rfl rfl (by decide) ?_; intro _; refine W.step tab_ok rfl rfl ?_))
      first | refine W.ret (fin _ _ (FinOk.mk' ([]) (ResOk.cell tab_ok rfl (at_own 0 rfl) rfl .nil) (by repeat (first | exact Sel.nil | (apply Sel.cons; (repeat (first | exact Pick.here | apply Pick.there))))) rfl ?_)) | refine W.ret (fin _ _ (FinOk.mk' ([]) (ResOk.cell tab_ok rfl (at_own 1 rfl) rfl .nil) (by repeat (first | exact Sel.nil | (apply Sel.cons; (repeat (first | exact Pick.here | apply Pick.there))))) rfl ?_)) | refine W.ret (fin _ _ (FinOk.mk' ([]) (ResOk.cell tab_ok rfl (at_own 2 rfl) rfl .nil) (by repeat (first | exact Sel.nil | (apply Sel.cons; (repeat (first | exact Pick.here | apply Pick.there))))) rfl ?_)) | refine W.ret (fin _ _ (FinOk.mk' ([]) (ResOk.cell tab_ok rfl (at_own 3 rfl) rfl .nil) (by repeat (first | exact Sel.nil | (apply Sel.cons; (repeat (first | exact Pick.here | apply Pick.there))))) rfl ?_)) | refine W.ret (fin _ _ (FinOk.mk' ([]) (ResOk.cell tab_ok rfl (at_own 4 rfl) rfl .nil) (by repeat (first | exact Sel.nil | (apply Sel.cons; (repeat (first | exact Pick.here | apply Pick.there))))) rfl ?_)) | refine W.ret (fin _ _ (FinOk.mk' ([]) (ResOk.cell tab_ok rfl (at_own 5 rfl) rfl .nil) (by repeat (first | exact Sel.nil | (apply Sel.cons; (repeat (first | exact Pick.here | apply Pick.there))))) rfl ?_)) | refine W.ret (fin _ _ (FinOk.mk' ([]) (ResOk.cell tab_ok rfl (at_own 6 rfl) rfl .nil) (by repeat (first | exact Sel.nil | (apply Sel.cons; (repeat (first | exact Pick.here | apply Pick.there))))) rfl ?_)) | refine W.ret (fin _ _ (FinOk.mk' ([]) (ResOk.cell tab_ok rfl (at_own 7 rfl) rfl .nil) (by repeat (first | exact Sel.nil | (apply Sel.cons; (repeat (first | exact Pick.here | apply Pick.there))))) rfl ?_)) | refine W.ret (fin _ _ (FinOk.mk' ([]) (ResOk.cell tab_ok rfl (at_own 8 rfl) rfl .nil) (by repeat (first | exact Sel.nil | (apply Sel.cons; (repeat (first | exact Pick.here | apply Pick.there))))) rfl ?_)) | refine W.ret (fin _ _ (FinOk.mk' ([]) (ResOk.cell tab_ok rfl (at_own 9 rfl) rfl .nil) (by repeat (first | exact Sel.nil | (apply Sel.cons; (repeat (first | exact Pick.here | apply Pick.there))))) rfl ?_)) | refine W.ret (fin _ _ (FinOk.mk' ([]) (ResOk.cell tab_ok rfl (at_own 10 rfl) rfl .nil) (by repeat (first | exact Sel.nil | (apply Sel.cons; (repeat (first | exact Pick.here | apply Pick.there))))) rfl ?_)) | refine W.ret (fin _ _ (FinOk.mk' ([]) (ResOk.cell tab_ok rfl (at_own 11 rfl) rfl .nil) (by repeat (first | exact Sel.nil | (apply Sel.cons; (repeat (first | exact Pick.here | apply Pick.there))))) rfl ?_))
      exact ⟨rfl, rfl⟩
  · refine W.call rfl rfl rfl rfl (of_no _ _ hk) (by repeat (first | exact Sel.nil | (apply Sel.cons; (repeat (first | exact Pick.here | apply Pick.there))))) (by repeat (first | exact RoIn.nil | exact RoIn.same | refine RoIn.cons (by first | exact at_own 0 rfl | exact at_own 1 rfl | exact at_own 2 rfl | exact at_own 3 rfl | exact at_own 4 rfl | exact at_own 5 rfl | exact at_own 6 rfl | exact at_own 7 rfl | exact at_own 8 rfl | exact at_own 9 rfl | exact at_own 10 rfl | exact at_own 11 rfl | exact at_ro 0 rfl | exact at_ro 1 rfl | exact at_ro 2 rfl | exact at_ro 3 rfl | exact at_ro 4 rfl | exact at_ro 5 rfl) ?_ | refine RoIn.append ?_ ?_ | exact RoIn.own 0 rfl | exact RoIn.own 1 rfl | exact RoIn.own 2 rfl | exact RoIn.own 3 rfl | exact RoIn.own 4 rfl | exact RoIn.own 5 rfl | exact RoIn.own 6 rfl | exact RoIn.own 7 rfl | exact RoIn.own 8 rfl | exact RoIn.own 9 rfl | exact RoIn.own 10 rfl | exact RoIn.own 11 rfl | (intro p hp; simp [hp]; done))) (by decide) ?_
    rintro _ _ ⟨rfl, rfl⟩
    refine W.step tab_ok rfl rfl ?_
    refine W.val (OpVal.neNil tab_ok rfl rfl rfl) (by decide) (W.step tab_ok rfl rfl ?_)
    refine W.iteF rfl (by rfl) (W.step tab_ok rfl rfl ?_)
    repeat (first | refine W.val (OpVal.load tab_ok rfl (at_own 0 rfl) rfl) (by decide) (W.step tab_ok rfl rfl ?_) | refine W.val (OpVal.load tab_ok rfl (at_own 1 rfl) rfl) (by decide) (W.step tab_ok rfl rfl ?_) | refine W.val (OpVal.load tab_ok rfl (at_own 2 rfl) rfl) (by decide) (W.step tab_ok rfl rfl ?_) | refine W.val (OpVal.load tab_ok rfl (at_own 3 rfl) rfl) (by decide) (W.step tab_ok rfl rfl ?_) | refine W.val (OpVal.load tab_ok rfl (at_own 4 rfl) rfl) (by decide) (W.step tab_ok rfl rfl ?_) | refine W.val (OpVal.load tab_ok rfl (at_own 5 rfl) rfl) (by decide) (W.step tab_ok rfl rfl ?_) | refine W.val (OpVal.load tab_ok rfl (at_own 6 rfl) rfl) (by decide) (W.step tab_ok rfl rfl ?_) | refine W.val (OpVal.load tab_ok rfl (at_own 7 rfl) rfl) (by decide) (W.step tab_ok rfl rfl ?_) | refine W.val (OpVal.load tab_ok rfl (at_own 8 rfl) rfl) (by decide) (W.step tab_ok rfl rfl ?_) | refine W.val (OpVal.load tab_ok rfl (at_own 9 rfl) rfl) (by decide) (W.step tab_ok rfl rfl ?_) | refine W.val (OpVal.load tab_ok rfl (at_own 10 rfl) rfl) (by decide) (W.step tab_ok rfl rfl ?_) | refine W.val (OpVal.load tab_ok rfl (at_own 11 rfl) rfl) (by decide) (W.step tab_ok rfl rfl ?_) | refine W.val (OpVal.load tab_ok rfl (at_ro 0 rfl) rfl) (by decide) (W.step tab_ok rfl rfl ?_) | refine W.val (OpVal.load tab_ok rfl (at_ro 1 rfl) rfl) (by decide) (W.step tab_ok rfl rfl ?_) | refine W.val (OpVal.load tab_ok rfl (at_ro 2 rfl) rfl) (by decide) (W.step tab_ok rfl rfl ?_) | refine W.val (OpVal.load tab_ok rfl (at_ro 3 rfl) rfl) (by decide) (W.step tab_ok rfl rfl ?_) | refine W.store tab_ok rfl Upd.here rfl rfl rfl rfl rfl rfl (W.step tab_ok rfl rfl ?_) | refine W.store tab_ok rfl (Upd.there Upd.here) rfl rfl rfl rfl rfl rfl (W.step tab_ok rfl rfl ?_) | refine W.store tab_ok rfl (Upd.there (Upd.there Upd.here)) rfl rfl rfl rfl rfl rfl (W.step tab_ok rfl rfl ?_) | refine W.store tab_ok rfl (Upd.there (Upd.there (Upd.there Upd.here))) rfl rfl rfl rfl rfl rfl (W.step tab_ok rfl rfl ?_) | refine W.store tab_ok rfl (Upd.there (Upd.there (Upd.there (Upd.there Upd.here)))) rfl rfl rfl rfl rfl rfl (W.step tab_ok rfl rfl ?_) | refine W.store tab_ok rfl (Upd.there (Upd.there (Upd.there (Upd.there (Upd.there Upd.here))))) rfl rfl rfl rfl rfl rfl (W.step tab_ok rfl rfl ?_) | refine W.store tab_ok rfl (Upd.there (Upd.there (Upd.there (Upd.there (Upd.there (Upd.there Upd.here)))))) rfl rfl rfl rfl rfl rfl (W.step tab_ok rfl rfl ?_) | refine W.store tab_ok rfl (Upd.there (Upd.there (Upd.there (Upd.there (Upd.there (Upd.there (Upd.there Upd.here))))))) rfl rfl rfl rfl rfl rfl (W.step tab_ok rfl rfl ?_) | refine W.store tab_ok rfl (Upd.there (Upd.there (Upd.there (Upd.there (Upd.there (Upd.there (Upd.there (Upd.there Upd.here)))))))) rfl rfl rfl rfl rfl rfl (W.step tab_ok rfl rfl ?_) | refine W.store tab_ok rfl (Upd.there (Upd.there (Upd.there (Upd.there (Upd.there (Upd.there (Upd.there (Upd.there (Upd.there Upd.here))))))))) rfl rfl rfl rfl rfl rfl (W.step tab_ok rfl rfl ?_) | refine W.store tab_ok rfl (Upd.there (Upd.there (Upd.there (Upd.there (Upd.there (Upd.there (Upd.there (Upd.there (Upd.there (Upd.there Upd.here)))))))))) rfl rfl rfl rfl rfl rfl (W.step tab_ok rfl rfl ?_) | refine W.store tab_ok rfl (Upd.there (Upd.there (Upd.there (Upd.there (Upd.there (Upd.there (Upd.there (Upd.there (Upd.there (Upd.there (Upd.there Upd.here))))))))))) rfl rfl rfl rfl rfl rfl (W.step tab_ok rfl rfl ?_) | (refine W.new tab_ok rfl rfl (by decide) ?_; intro _; refine W.step tab_ok rfl rfl ?_) | (refine W.box rfl rfl (by decide) ?_; intro _; refine W.step tab_ok rfl rfl ?_))
    first | refine W.ret (fin _ _ (FinOk.mk' ([]) (ResOk.cell tab_ok rfl (at_own 0 rfl) rfl .nil) (by repeat (first | exact Sel.nil | (apply Sel.cons; (repeat (first | exact Pick.here | apply Pick.there))))) rfl ?_)) | refine W.ret (fin _ _ (FinOk.mk' ([]) (ResOk.cell tab_ok rfl (at_own 1 rfl) rfl .nil) (by repeat (first | exact Sel.nil | (apply Sel.cons; (repeat (first | exact Pick.here | apply Pick.there))))) rfl ?_)) | refine W.ret (fin _ _ (FinOk.mk' ([]) (ResOk.cell tab_ok rfl (at_own 2 rfl) rfl .nil) (by repeat (first | exact Sel.nil | (apply Sel.cons; (repeat (first | exact Pick.here | apply Pick.there))))) rfl ?_)) | refine W.ret (fin _ _ (FinOk.mk' ([]) (ResOk.cell tab_ok rfl (at_own 3 rfl) rfl .nil) (by repeat (first | exact Sel.nil | (apply Sel.cons; (repeat (first | exact Pick.here | apply Pick.there))))) rfl ?_)) | refine W.ret (fin _ _ (FinOk.mk' ([]) (ResOk.cell tab_ok rfl (at_own 4 rfl) rfl .nil) (by repeat (first | exact Sel.nil | (apply Sel.cons; (repeat (first | exact Pick.here | apply Pick.there))))) rfl ?_)) | refine W.ret (fin _ _ (FinOk.mk' ([]) (ResOk.cell tab_ok rfl (at_own 5 rfl) rfl .nil) (by repeat (first | exact Sel.nil | (apply Sel.cons; (repeat (first | exact Pick.here | apply Pick.there))))) rfl ?_)) | refine W.ret (fin _ _ (FinOk.mk' ([]) (ResOk.cell tab_ok rfl (at_own 6 rfl) rfl .nil) (by repeat (first | exact Sel.nil | (apply Sel.cons; (repeat (first | exact Pick.here | apply Pick.there))))) rfl ?_)) | refine W.ret (fin _ _ (FinOk.mk' ([]) (ResOk.cell tab_ok rfl (at_own 7 rfl) rfl .nil) (by repeat (first | exact Sel.nil | (apply Sel.cons; (repeat (first | exact Pick.here | apply Pick.there))))) rfl ?_)) | refine W.ret (fin _ _ (FinOk.mk' ([]) (ResOk.cell tab_ok rfl (at_own 8 rfl) rfl .nil) (by repeat (first | exact Sel.nil | (apply Sel.cons; (repeat (first | exact Pick.here | apply Pick.there))))) rfl ?_)) | refine W.ret (fin _ _ (FinOk.mk' ([]) (ResOk.cell tab_ok rfl (at_own 9 rfl) rfl .nil) (by repeat (first | exact Sel.nil | (apply Sel.cons; (repeat (first | exact Pick.here | apply Pick.there))))) rfl ?_)) | refine W.ret (fin _ _ (FinOk.mk' ([]) (ResOk.cell tab_ok rfl (at_own 10 rfl) rfl .nil) (by repeat (first | exact Sel.nil | (apply Sel.cons; (repeat (first | exact Pick.here | apply Pick.there))))) rfl ?_)) | refine W.ret (fin _ _ (FinOk.mk' ([]) (ResOk.cell tab_ok rfl (at_own 11 rfl) rfl .nil) (by repeat (first | exact Sel.nil | (apply Sel.cons; (repeat (first | exact Pick.here | apply Pick.there))))) rfl ?_))
    refine ⟨?_, rfl⟩
    unfold C6.add
    repeat rw [if_neg (by omega)]
    rfl
end Go.Proofs.Ytjpinfnbamigcaa
