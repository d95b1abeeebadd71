/-
  The law CountNames, as a contract: it answers true, for every number.
-/
import Derived.Test.YtjpinfnbamigcaaCc
namespace Go.Proofs.Ytjpinfnbamigcaa
open Go Go.Sl Go.IntWalk
set_option maxHeartbeats 2000000
theorem CountNames_spec (k : Int) : Ctr Try.prog 3 [.int .i64 k] [] [] (fun v L' => v = .bool true ∧ L' = []) := by
  refine Ctr.enter (n := 40) [.tmp 2] [(0, _)] Try.func3 rfl rfl rfl (Nat.le_of_ble_eq_true rfl) Try.call3 ⟨rfl, trivial⟩ ?_
  intro cx fin fin0
  refine W.step tab_ok rfl rfl ?_
  refine W.slit (ps := [_, _, _, _, _, _]) tab_ok rfl rfl rfl rfl rfl rfl rfl (by repeat (first | exact trivial | refine ⟨⟨_, _, _, rfl, rfl, rfl⟩, ?_⟩)) rfl (by decide) (by decide) ?_
  intro b
  refine W.step tab_ok rfl rfl ?_
  refine W.loop (fun m ρ1 L1 => ∃ i : Nat, i ≤ 6 ∧ m = 6 - i ∧ ρ1 = [(0, .int .i64 k), (3, .slice (some ⟨b, 0, none⟩) 6 6), (4, .int .i64 (i : Int))] ∧ L1 = [[(b, .cells #[.string ⟨#[104, 105, 116, 115]⟩, .string ⟨#[109, 105, 115, 115, 101, 115]⟩, .string ⟨#[101, 118, 105, 99, 116, 115]⟩, .string ⟨#[114, 101, 97, 100, 115]⟩, .string ⟨#[119, 114, 105, 116, 101, 115]⟩, .string ⟨#[102, 97, 105, 108, 115]⟩] 9 (0, 0))]]) _ _ _ (by repeat (first | exact trivial | refine ⟨rfl, ?_⟩)) (by repeat (first | exact Sel.nil | (apply Sel.cons; (repeat (first | exact Pick.here | apply Pick.there))))) (⟨0, Nat.zero_le _, rfl, rfl, rfl⟩) ?_
  rintro m ρ1 L1 ⟨i, hi, rfl, rfl, rfl⟩
  refine W.step tab_ok rfl rfl ?_
  by_cases hlt : i < 6
  · refine W.iteT rfl (by simp; omega) (W.step tab_ok rfl rfl ?_)
    have hk : i = 0 ∨ i = 1 ∨ i = 2 ∨ i = 3 ∨ i = 4 ∨ i = 5 := by omega
    rcases hk with rfl | rfl | rfl | rfl | rfl | rfl
    all_goals
      refine W.draw follows (by decide +kernel) (WZ.drive tab_ok rfl ?_)
      refine WZ.call (_) rfl rfl rfl rfl (Name_spec _) (by repeat (first | exact RoIn.nil | exact RoIn.same | refine RoIn.cons (by first | exact at_own 0 rfl | exact at_own 1 rfl | exact at_own 2 rfl | exact at_own 3 rfl | exact at_own 4 rfl | exact at_own 5 rfl | exact at_own 6 rfl | exact at_own 7 rfl | exact at_own 8 rfl | exact at_own 9 rfl | exact at_own 10 rfl | exact at_own 11 rfl | exact at_ro 0 rfl | exact at_ro 1 rfl | exact at_ro 2 rfl | exact at_ro 3 rfl | exact at_ro 4 rfl | exact at_ro 5 rfl) ?_ | refine RoIn.append ?_ ?_ | exact RoIn.own 0 rfl | exact RoIn.own 1 rfl | exact RoIn.own 2 rfl | exact RoIn.own 3 rfl | exact RoIn.own 4 rfl | exact RoIn.own 5 rfl | exact RoIn.own 6 rfl | exact RoIn.own 7 rfl | exact RoIn.own 8 rfl | exact RoIn.own 9 rfl | exact RoIn.own 10 rfl | exact RoIn.own 11 rfl | (intro p hp; simp [hp]; done))) (by decide) (by rintro _ _ ⟨rfl, rfl⟩; rfl) (WZ.drive tab_ok rfl ?_)
      refine WZ.val (OpVal.ixSl tab_ok rfl rfl rfl rfl rfl (by decide)) (by decide) (WZ.drive tab_ok rfl ?_)
      repeat (first | refine WZ.val (OpVal.load tab_ok rfl (at_own 0 rfl) rfl) (by decide) (WZ.drive tab_ok rfl ?_) | refine WZ.val (OpVal.load tab_ok rfl (at_own 1 rfl) rfl) (by decide) (WZ.drive tab_ok rfl ?_) | refine WZ.val (OpVal.load tab_ok rfl (at_own 2 rfl) rfl) (by decide) (WZ.drive tab_ok rfl ?_) | refine WZ.val (OpVal.load tab_ok rfl (at_own 3 rfl) rfl) (by decide) (WZ.drive tab_ok rfl ?_) | refine WZ.val (OpVal.load tab_ok rfl (at_own 4 rfl) rfl) (by decide) (WZ.drive tab_ok rfl ?_) | refine WZ.val (OpVal.load tab_ok rfl (at_own 5 rfl) rfl) (by decide) (WZ.drive tab_ok rfl ?_) | refine WZ.val (OpVal.load tab_ok rfl (at_own 6 rfl) rfl) (by decide) (WZ.drive tab_ok rfl ?_) | refine WZ.val (OpVal.load tab_ok rfl (at_own 7 rfl) rfl) (by decide) (WZ.drive tab_ok rfl ?_) | refine WZ.val (OpVal.load tab_ok rfl (at_own 8 rfl) rfl) (by decide) (WZ.drive tab_ok rfl ?_) | refine WZ.val (OpVal.load tab_ok rfl (at_own 9 rfl) rfl) (by decide) (WZ.drive tab_ok rfl ?_) | refine WZ.val (OpVal.load tab_ok rfl (at_own 10 rfl) rfl) (by decide) (WZ.drive tab_ok rfl ?_) | refine WZ.val (OpVal.load tab_ok rfl (at_own 11 rfl) rfl) (by decide) (WZ.drive tab_ok rfl ?_) | refine WZ.val (OpVal.load tab_ok rfl (at_ro 0 rfl) rfl) (by decide) (WZ.drive tab_ok rfl ?_) | refine WZ.val (OpVal.load tab_ok rfl (at_ro 1 rfl) rfl) (by decide) (WZ.drive tab_ok rfl ?_) | refine WZ.val (OpVal.load tab_ok rfl (at_ro 2 rfl) rfl) (by decide) (WZ.drive tab_ok rfl ?_) | refine WZ.val (OpVal.load tab_ok rfl (at_ro 3 rfl) rfl) (by decide) (WZ.drive tab_ok rfl ?_))
      refine WZ.val (OpVal.neStr rfl rfl) (by decide) (WZ.drive tab_ok rfl ?_)
      refine WZ.nil (W.step tab_ok rfl rfl ?_)
      refine W.iteF rfl (by simp [nameOf]) (W.step tab_ok rfl rfl ?_)
      refine W.val (OpVal.add rfl rfl (i64_in _ (by omega))) (by decide) (W.step tab_ok rfl rfl ?_)
      refine W.rnd _ _ (by repeat (first | exact trivial | refine ⟨rfl, ?_⟩)) (by repeat (first | exact Sel.nil | (apply Sel.cons; (repeat (first | exact Pick.here | apply Pick.there))))) (⟨_, by decide, _, by decide, rfl, rfl, rfl⟩)
  · refine W.iteF rfl (by simp; omega) (W.step tab_ok rfl rfl ?_)
    have hnm : ((!((nameOf k).toList == (⟨#[]⟩ : ByteArray).toList)) == decide (0 ≤ k ∧ k < 6)) = true := by
      by_cases hk : 0 ≤ k ∧ k < 6
      · rcases kinds hk with rfl | rfl | rfl | rfl | rfl | rfl <;> decide +kernel
      · have : nameOf k = ⟨#[]⟩ := by
          unfold nameOf
          repeat rw [if_neg (by omega)]
        simp [this, hk]
    by_cases h0 : 0 ≤ k
    · refine W.guardGo rfl rfl (by simp [h0]) (W.step tab_ok rfl rfl ?_)
      refine W.guardGo rfl rfl (by simp [h0]) (W.step tab_ok rfl rfl ?_)
      refine W.val (OpVal.pickT rfl (by simp [h0]) rfl) (by decide) (W.step tab_ok rfl rfl ?_)
      refine W.call rfl rfl rfl rfl (Name_spec _) (by repeat (first | exact Sel.nil | (apply Sel.cons; (repeat (first | exact Pick.here | apply Pick.there))))) (by repeat (first | exact RoIn.nil | exact RoIn.same | refine RoIn.cons (by first | exact at_own 0 rfl | exact at_own 1 rfl | exact at_own 2 rfl | exact at_own 3 rfl | exact at_own 4 rfl | exact at_own 5 rfl | exact at_own 6 rfl | exact at_own 7 rfl | exact at_own 8 rfl | exact at_own 9 rfl | exact at_own 10 rfl | exact at_own 11 rfl | exact at_ro 0 rfl | exact at_ro 1 rfl | exact at_ro 2 rfl | exact at_ro 3 rfl | exact at_ro 4 rfl | exact at_ro 5 rfl) ?_ | refine RoIn.append ?_ ?_ | exact RoIn.own 0 rfl | exact RoIn.own 1 rfl | exact RoIn.own 2 rfl | exact RoIn.own 3 rfl | exact RoIn.own 4 rfl | exact RoIn.own 5 rfl | exact RoIn.own 6 rfl | exact RoIn.own 7 rfl | exact RoIn.own 8 rfl | exact RoIn.own 9 rfl | exact RoIn.own 10 rfl | exact RoIn.own 11 rfl | (intro p hp; simp [hp]; done))) (by decide) ?_
      rintro _ _ ⟨rfl, rfl⟩
      refine W.step tab_ok rfl rfl ?_
      refine W.val (OpVal.neStr rfl rfl) (by decide) (W.step tab_ok rfl rfl ?_)
      refine W.val (OpVal.eqBool tab_ok rfl rfl rfl) (by decide) (W.step tab_ok rfl rfl ?_)
      have hb : ((!((nameOf k).toList == (⟨#[]⟩ : ByteArray).toList)) == decide (k < 6)) = true := by
        rw [← hnm]; simp [h0]
      refine W.guardGo rfl rfl (by exact hb) (W.step tab_ok rfl rfl ?_)
      refine W.call rfl rfl rfl rfl (Name_spec _) (by repeat (first | exact Sel.nil | (apply Sel.cons; (repeat (first | exact Pick.here | apply Pick.there))))) (by repeat (first | exact RoIn.nil | exact RoIn.same | refine RoIn.cons (by first | exact at_own 0 rfl | exact at_own 1 rfl | exact at_own 2 rfl | exact at_own 3 rfl | exact at_own 4 rfl | exact at_own 5 rfl | exact at_own 6 rfl | exact at_own 7 rfl | exact at_own 8 rfl | exact at_own 9 rfl | exact at_own 10 rfl | exact at_own 11 rfl | exact at_ro 0 rfl | exact at_ro 1 rfl | exact at_ro 2 rfl | exact at_ro 3 rfl | exact at_ro 4 rfl | exact at_ro 5 rfl) ?_ | refine RoIn.append ?_ ?_ | exact RoIn.own 0 rfl | exact RoIn.own 1 rfl | exact RoIn.own 2 rfl | exact RoIn.own 3 rfl | exact RoIn.own 4 rfl | exact RoIn.own 5 rfl | exact RoIn.own 6 rfl | exact RoIn.own 7 rfl | exact RoIn.own 8 rfl | exact RoIn.own 9 rfl | exact RoIn.own 10 rfl | exact RoIn.own 11 rfl | (intro p hp; simp [hp]; done))) (by decide) ?_
      rintro _ _ ⟨rfl, rfl⟩
      refine W.step tab_ok rfl rfl ?_
      refine W.guardGo rfl rfl (by exact hb) (W.step tab_ok rfl rfl ?_)
      refine W.val (OpVal.eqStr rfl rfl) (by decide) (W.step tab_ok rfl rfl ?_)
      refine W.val (OpVal.pickT rfl (by exact hb) rfl) (by decide) (W.step tab_ok rfl rfl ?_)
      refine W.guardGo rfl rfl (by simp [nameOf]) (W.step tab_ok rfl rfl ?_)
      refine W.call rfl rfl rfl rfl (Name_spec _) (by repeat (first | exact Sel.nil | (apply Sel.cons; (repeat (first | exact Pick.here | apply Pick.there))))) (by repeat (first | exact RoIn.nil | exact RoIn.same | refine RoIn.cons (by first | exact at_own 0 rfl | exact at_own 1 rfl | exact at_own 2 rfl | exact at_own 3 rfl | exact at_own 4 rfl | exact at_own 5 rfl | exact at_own 6 rfl | exact at_own 7 rfl | exact at_own 8 rfl | exact at_own 9 rfl | exact at_own 10 rfl | exact at_own 11 rfl | exact at_ro 0 rfl | exact at_ro 1 rfl | exact at_ro 2 rfl | exact at_ro 3 rfl | exact at_ro 4 rfl | exact at_ro 5 rfl) ?_ | refine RoIn.append ?_ ?_ | exact RoIn.own 0 rfl | exact RoIn.own 1 rfl | exact RoIn.own 2 rfl | exact RoIn.own 3 rfl | exact RoIn.own 4 rfl | exact RoIn.own 5 rfl | exact RoIn.own 6 rfl | exact RoIn.own 7 rfl | exact RoIn.own 8 rfl | exact RoIn.own 9 rfl | exact RoIn.own 10 rfl | exact RoIn.own 11 rfl | (intro p hp; simp [hp]; done))) (by decide) ?_
      rintro _ _ ⟨rfl, rfl⟩
      refine W.step tab_ok rfl rfl ?_
      refine W.guardGo rfl rfl (by simp [nameOf]) (W.step tab_ok rfl rfl ?_)
      refine W.val (OpVal.eqStr rfl rfl) (by decide) (W.step tab_ok rfl rfl ?_)
      refine W.val (OpVal.pickT rfl (by simp [nameOf]) rfl) (by decide) (W.step tab_ok rfl rfl ?_)
      refine W.guardGo rfl rfl (by simp [nameOf]) (W.step tab_ok rfl rfl ?_)
      refine W.call rfl rfl rfl rfl (lives_spec) (by repeat (first | exact Sel.nil | (apply Sel.cons; (repeat (first | exact Pick.here | apply Pick.there))))) (by repeat (first | exact RoIn.nil | exact RoIn.same | refine RoIn.cons (by first | exact at_own 0 rfl | exact at_own 1 rfl | exact at_own 2 rfl | exact at_own 3 rfl | exact at_own 4 rfl | exact at_own 5 rfl | exact at_own 6 rfl | exact at_own 7 rfl | exact at_own 8 rfl | exact at_own 9 rfl | exact at_own 10 rfl | exact at_own 11 rfl | exact at_ro 0 rfl | exact at_ro 1 rfl | exact at_ro 2 rfl | exact at_ro 3 rfl | exact at_ro 4 rfl | exact at_ro 5 rfl) ?_ | refine RoIn.append ?_ ?_ | exact RoIn.own 0 rfl | exact RoIn.own 1 rfl | exact RoIn.own 2 rfl | exact RoIn.own 3 rfl | exact RoIn.own 4 rfl | exact RoIn.own 5 rfl | exact RoIn.own 6 rfl | exact RoIn.own 7 rfl | exact RoIn.own 8 rfl | exact RoIn.own 9 rfl | exact RoIn.own 10 rfl | exact RoIn.own 11 rfl | (intro p hp; simp [hp]; done))) (by decide) ?_
      rintro _ _ ⟨rfl, rfl⟩
      refine W.step tab_ok rfl rfl ?_
      refine W.val (OpVal.pickT rfl (by simp [nameOf]) rfl) (by decide) (W.step tab_ok rfl rfl ?_)
      refine W.ret (fin _ _ (FinOk.mk' ([]) (.tmp rfl .nil) (by repeat (first | exact Sel.nil | (apply Sel.cons; (repeat (first | exact Pick.here | apply Pick.there))))) rfl ?_))
      exact ⟨rfl, rfl⟩
    · refine W.guardSkip rfl rfl (by simp [h0]) (by decide) (W.step tab_ok rfl rfl ?_)
      refine W.guardSkip rfl rfl (by simp [h0]) (by decide) (W.step tab_ok rfl rfl ?_)
      refine W.val (OpVal.pickF rfl (by simp [h0]) rfl) (by decide) (W.step tab_ok rfl rfl ?_)
      refine W.call rfl rfl rfl rfl (Name_spec _) (by repeat (first | exact Sel.nil | (apply Sel.cons; (repeat (first | exact Pick.here | apply Pick.there))))) (by repeat (first | exact RoIn.nil | exact RoIn.same | refine RoIn.cons (by first | exact at_own 0 rfl | exact at_own 1 rfl | exact at_own 2 rfl | exact at_own 3 rfl | exact at_own 4 rfl | exact at_own 5 rfl | exact at_own 6 rfl | exact at_own 7 rfl | exact at_own 8 rfl | exact at_own 9 rfl | exact at_own 10 rfl | exact at_own 11 rfl | exact at_ro 0 rfl | exact at_ro 1 rfl | exact at_ro 2 rfl | exact at_ro 3 rfl | exact at_ro 4 rfl | exact at_ro 5 rfl) ?_ | refine RoIn.append ?_ ?_ | exact RoIn.own 0 rfl | exact RoIn.own 1 rfl | exact RoIn.own 2 rfl | exact RoIn.own 3 rfl | exact RoIn.own 4 rfl | exact RoIn.own 5 rfl | exact RoIn.own 6 rfl | exact RoIn.own 7 rfl | exact RoIn.own 8 rfl | exact RoIn.own 9 rfl | exact RoIn.own 10 rfl | exact RoIn.own 11 rfl | (intro p hp; simp [hp]; done))) (by decide) ?_
      rintro _ _ ⟨rfl, rfl⟩
      refine W.step tab_ok rfl rfl ?_
      refine W.val (OpVal.neStr rfl rfl) (by decide) (W.step tab_ok rfl rfl ?_)
      refine W.val (OpVal.eqBool tab_ok rfl rfl rfl) (by decide) (W.step tab_ok rfl rfl ?_)
      have hb : ((!((nameOf k).toList == (⟨#[]⟩ : ByteArray).toList)) == false) = true := by
        rw [← hnm]; simp [h0]
      refine W.guardGo rfl rfl (by exact hb) (W.step tab_ok rfl rfl ?_)
      refine W.call rfl rfl rfl rfl (Name_spec _) (by repeat (first | exact Sel.nil | (apply Sel.cons; (repeat (first | exact Pick.here | apply Pick.there))))) (by repeat (first | exact RoIn.nil | exact RoIn.same | refine RoIn.cons (by first | exact at_own 0 rfl | exact at_own 1 rfl | exact at_own 2 rfl | exact at_own 3 rfl | exact at_own 4 rfl | exact at_own 5 rfl | exact at_own 6 rfl | exact at_own 7 rfl | exact at_own 8 rfl | exact at_own 9 rfl | exact at_own 10 rfl | exact at_own 11 rfl | exact at_ro 0 rfl | exact at_ro 1 rfl | exact at_ro 2 rfl | exact at_ro 3 rfl | exact at_ro 4 rfl | exact at_ro 5 rfl) ?_ | refine RoIn.append ?_ ?_ | exact RoIn.own 0 rfl | exact RoIn.own 1 rfl | exact RoIn.own 2 rfl | exact RoIn.own 3 rfl | exact RoIn.own 4 rfl | exact RoIn.own 5 rfl | exact RoIn.own 6 rfl | exact RoIn.own 7 rfl | exact RoIn.own 8 rfl | exact RoIn.own 9 rfl | exact RoIn.own 10 rfl | exact RoIn.own 11 rfl | (intro p hp; simp [hp]; done))) (by decide) ?_
      rintro _ _ ⟨rfl, rfl⟩
      refine W.step tab_ok rfl rfl ?_
      refine W.guardGo rfl rfl (by exact hb) (W.step tab_ok rfl rfl ?_)
      refine W.val (OpVal.eqStr rfl rfl) (by decide) (W.step tab_ok rfl rfl ?_)
      refine W.val (OpVal.pickT rfl (by exact hb) rfl) (by decide) (W.step tab_ok rfl rfl ?_)
      refine W.guardGo rfl rfl (by simp [nameOf]) (W.step tab_ok rfl rfl ?_)
      refine W.call rfl rfl rfl rfl (Name_spec _) (by repeat (first | exact Sel.nil | (apply Sel.cons; (repeat (first | exact Pick.here | apply Pick.there))))) (by repeat (first | exact RoIn.nil | exact RoIn.same | refine RoIn.cons (by first | exact at_own 0 rfl | exact at_own 1 rfl | exact at_own 2 rfl | exact at_own 3 rfl | exact at_own 4 rfl | exact at_own 5 rfl | exact at_own 6 rfl | exact at_own 7 rfl | exact at_own 8 rfl | exact at_own 9 rfl | exact at_own 10 rfl | exact at_own 11 rfl | exact at_ro 0 rfl | exact at_ro 1 rfl | exact at_ro 2 rfl | exact at_ro 3 rfl | exact at_ro 4 rfl | exact at_ro 5 rfl) ?_ | refine RoIn.append ?_ ?_ | exact RoIn.own 0 rfl | exact RoIn.own 1 rfl | exact RoIn.own 2 rfl | exact RoIn.own 3 rfl | exact RoIn.own 4 rfl | exact RoIn.own 5 rfl | exact RoIn.own 6 rfl | exact RoIn.own 7 rfl | exact RoIn.own 8 rfl | exact RoIn.own 9 rfl | exact RoIn.own 10 rfl | exact RoIn.own 11 rfl | (intro p hp; simp [hp]; done))) (by decide) ?_
      rintro _ _ ⟨rfl, rfl⟩
      refine W.step tab_ok rfl rfl ?_
      refine W.guardGo rfl rfl (by simp [nameOf]) (W.step tab_ok rfl rfl ?_)
      refine W.val (OpVal.eqStr rfl rfl) (by decide) (W.step tab_ok rfl rfl ?_)
      refine W.val (OpVal.pickT rfl (by simp [nameOf]) rfl) (by decide) (W.step tab_ok rfl rfl ?_)
      refine W.guardGo rfl rfl (by simp [nameOf]) (W.step tab_ok rfl rfl ?_)
      refine W.call rfl rfl rfl rfl (lives_spec) (by repeat (first | exact Sel.nil | (apply Sel.cons; (repeat (first | exact Pick.here | apply Pick.there))))) (by repeat (first | exact RoIn.nil | exact RoIn.same | refine RoIn.cons (by first | exact at_own 0 rfl | exact at_own 1 rfl | exact at_own 2 rfl | exact at_own 3 rfl | exact at_own 4 rfl | exact at_own 5 rfl | exact at_own 6 rfl | exact at_own 7 rfl | exact at_own 8 rfl | exact at_own 9 rfl | exact at_own 10 rfl | exact at_own 11 rfl | exact at_ro 0 rfl | exact at_ro 1 rfl | exact at_ro 2 rfl | exact at_ro 3 rfl | exact at_ro 4 rfl | exact at_ro 5 rfl) ?_ | refine RoIn.append ?_ ?_ | exact RoIn.own 0 rfl | exact RoIn.own 1 rfl | exact RoIn.own 2 rfl | exact RoIn.own 3 rfl | exact RoIn.own 4 rfl | exact RoIn.own 5 rfl | exact RoIn.own 6 rfl | exact RoIn.own 7 rfl | exact RoIn.own 8 rfl | exact RoIn.own 9 rfl | exact RoIn.own 10 rfl | exact RoIn.own 11 rfl | (intro p hp; simp [hp]; done))) (by decide) ?_
      rintro _ _ ⟨rfl, rfl⟩
      refine W.step tab_ok rfl rfl ?_
      refine W.val (OpVal.pickT rfl (by simp [nameOf]) rfl) (by decide) (W.step tab_ok rfl rfl ?_)
      refine W.ret (fin _ _ (FinOk.mk' ([]) (.tmp rfl .nil) (by repeat (first | exact Sel.nil | (apply Sel.cons; (repeat (first | exact Pick.here | apply Pick.there))))) rfl ?_))
      exact ⟨rfl, rfl⟩
end Go.Proofs.Ytjpinfnbamigcaa
