/-
  Contracts of arena.Cut, Of, the example.
-/
import Derived.Test.YtdhjmeoppmpilaaAa
import Derived.Test.YtdhjmeoppmpilaaSt
namespace Go.Proofs.Ytdhjmeoppmpilaa
open Go Go.Sl Go.IntWalk
set_option maxHeartbeats 2000000
def made (ls : List Int) : List Pt := ls.map fun n => Pt.new n.toNat
def MayCut (ls : List Int) : Prop := 1 ≤ ls.length ∧ ls.length ≤ 16 ∧ (∀ n ∈ ls, 1 ≤ n ∧ n ≤ 64) ∧ tot flen (made ls) ≤ 64
theorem made_ok {ls : List Int} (h : ∀ n ∈ ls, 1 ≤ n ∧ n ≤ 64) : ∀ p ∈ made ls, p.Ok := by
  intro p hp
  obtain ⟨n, hn, rfl⟩ := List.mem_map.1 hp
  have := h n hn
  exact Pt.new_ok (by omega) (by omega)
/-- Cut, for whatever list of lengths. -/
theorem Cut_spec (xs : List Int) (a : Option Addr) (cap : Nat) (ro : HL) (hro : RoSl 1 (ints xs) a xs.length ro) :
    Ctr Try.prog 15 [.slice a xs.length cap] [] ro (fun v L' => (¬ MayCut xs ∧ v = .tuple #[.pointer none, .int .i64 1] ∧ L' = []) ∨
      (MayCut xs ∧ ∃ b H, v = .tuple #[.pointer (some ⟨b, 0, none⟩), .int .i64 0] ∧ L' = [H] ∧ ArAt (made xs) b H)) := by
  refine Ctr.enter (n := 48) [.tmp 2, .tmp 3] [(0, _)] Try.func15 rfl rfl rfl (Nat.le_of_ble_eq_true rfl) Try.call15 ⟨rfl, trivial⟩ ?_
  intro cx fin fin0
  refine W.step tab_ok rfl rfl ?_
  by_cases h1 : xs.length < 1
  · refine W.guardSkip rfl rfl (by simp; omega) (by exact Nat.le_of_ble_eq_true rfl) (W.step tab_ok rfl rfl ?_)
    refine W.guardSkip rfl rfl (by simp; omega) (by exact Nat.le_of_ble_eq_true rfl) (W.step tab_ok rfl rfl ?_)
    refine W.guardSkip rfl rfl (by simp; omega) (by exact Nat.le_of_ble_eq_true rfl) (W.step tab_ok rfl rfl ?_)
    refine W.val (OpVal.pickT rfl (by simp; omega) rfl) (by exact Nat.le_of_ble_eq_true rfl) (W.step tab_ok rfl rfl ?_)
    refine W.iteT rfl (by rfl) (W.step tab_ok rfl rfl ?_)
    refine W.ret (fin _ _ (FinOk.mk' ([]) (.tmp rfl (.tmp rfl .nil)) (by repeat (first | exact Sel.nil | (apply Sel.cons; (repeat (first | exact Pick.here | apply Pick.there))))) rfl ?_))
    exact .inl ⟨fun h => by have := h.1; omega, rfl, rfl⟩
  · refine W.guardGo rfl rfl (by simp; omega) (W.step tab_ok rfl rfl ?_)
    refine W.guardGo rfl rfl (by simp; omega) (W.step tab_ok rfl rfl ?_)
    refine W.guardGo rfl rfl (by simp; omega) (W.step tab_ok rfl rfl ?_)
    refine W.val (OpVal.pickF rfl (by simp; omega) rfl) (by exact Nat.le_of_ble_eq_true rfl) (W.step tab_ok rfl rfl ?_)
    by_cases h2 : 16 < xs.length
    · refine W.iteT rfl (by simp; omega) (W.step tab_ok rfl rfl ?_)
      refine W.ret (fin _ _ (FinOk.mk' ([]) (.tmp rfl (.tmp rfl .nil)) (by repeat (first | exact Sel.nil | (apply Sel.cons; (repeat (first | exact Pick.here | apply Pick.there))))) rfl ?_))
      exact .inl ⟨fun h => by have := h.2.1; omega, rfl, rfl⟩
    · refine W.iteF rfl (by simp; omega) (W.step tab_ok rfl rfl ?_)
      refine W.val (OpVal.build (ps := []) tab_ok rfl rfl rfl rfl (by repeat (first | exact trivial | refine ⟨⟨_, _, _, rfl, rfl, rfl⟩, ?_⟩)) rfl) (by exact Nat.le_of_ble_eq_true rfl) (W.step tab_ok rfl rfl ?_)
      repeat (first | (refine W.isLoad ?_; refine W.val (OpVal.load tab_ok rfl (by first | exact at_own 0 rfl | exact at_own 1 rfl | exact at_own 2 rfl | exact at_own 3 rfl | exact at_own 4 rfl | exact at_own 5 rfl | exact at_own 6 rfl | exact at_own 7 rfl | exact at_own 8 rfl | exact at_own 9 rfl | exact at_own 10 rfl | exact at_own 11 rfl | exact at_ro 0 rfl | exact at_ro 1 rfl | exact at_ro 2 rfl | exact at_ro 3 rfl) (by rfl)) (by exact Nat.le_of_ble_eq_true rfl) ?_; refine W.step tab_ok rfl rfl ?_) | (refine W.isStore ?_; refine W.store tab_ok rfl (by first | exact Upd.here | exact (Upd.there Upd.here) | exact (Upd.there (Upd.there Upd.here)) | exact (Upd.there (Upd.there (Upd.there Upd.here))) | exact (Upd.there (Upd.there (Upd.there (Upd.there Upd.here)))) | exact (Upd.there (Upd.there (Upd.there (Upd.there (Upd.there Upd.here))))) | exact (Upd.there (Upd.there (Upd.there (Upd.there (Upd.there (Upd.there Upd.here)))))) | exact (Upd.there (Upd.there (Upd.there (Upd.there (Upd.there (Upd.there (Upd.there Upd.here))))))) | exact (Upd.there (Upd.there (Upd.there (Upd.there (Upd.there (Upd.there (Upd.there (Upd.there Upd.here)))))))) | exact (Upd.there (Upd.there (Upd.there (Upd.there (Upd.there (Upd.there (Upd.there (Upd.there (Upd.there Upd.here))))))))) | exact (Upd.there (Upd.there (Upd.there (Upd.there (Upd.there (Upd.there (Upd.there (Upd.there (Upd.there (Upd.there Upd.here)))))))))) | exact (Upd.there (Upd.there (Upd.there (Upd.there (Upd.there (Upd.there (Upd.there (Upd.there (Upd.there (Upd.there (Upd.there Upd.here)))))))))))) rfl rfl rfl rfl rfl (by rfl) ?_; refine W.step tab_ok rfl rfl ?_) | (refine W.isNew ?_; refine W.new tab_ok rfl rfl (by exact Nat.le_of_ble_eq_true rfl) ?_; intro _; refine W.step tab_ok rfl rfl ?_) | (refine W.isBox ?_; refine W.box rfl rfl (by exact Nat.le_of_ble_eq_true rfl) ?_; intro _; refine W.step tab_ok rfl rfl ?_))
      rename_i b
      rcases hro.2 with ⟨h0, _⟩ | ⟨bx, ox, lx, ex, frx, rfl, rfl, hlx, hcx⟩
      · omega
      refine W.nilChunk ?_
      refine W.nilChunk ?_
      refine W.loop (fun m ρ1 L1 => ∃ (j : Nat) (bs : List Nat) (aa : Option Addr) (cc : Nat) (Hl Hp : HL), j ≤ xs.length ∧ (∀ n ∈ xs.take j, 1 ≤ n ∧ n ≤ 64) ∧ Own 1 37 (ptrs bs) aa j cc Hl ∧ PtsAt (made (xs.take j)) bs Hp ∧ m = xs.length - j ∧ ρ1 = [(21, .int .i64 (j : Int)), (20, .int .i64 (xs.length : Int)), (19, .slice (some ⟨bx, ox, none⟩) xs.length cap), (4, .pointer (some ⟨b, 0, none⟩))] ∧ L1 = [[(b, .cells #[.slice aa j cc] 86 (0, 0))], Hl, Hp]) _ _ _ (by repeat (first | exact trivial | refine ⟨rfl, ?_⟩)) (by repeat (first | exact Sel.nil | (apply Sel.cons; (repeat (first | exact Pick.here | apply Pick.there))))) (⟨0, [], none, 0, [], [], Nat.zero_le _, by simp, Own.nil _ _, ⟨rfl, rfl⟩, rfl, rfl, rfl⟩) ?_
      rintro m ρ1 L1 ⟨j, bs, aa, cc, Hl, Hp, hj, hall, hown, hpts, rfl, rfl, rfl⟩
      refine W.step tab_ok rfl rfl ?_
      by_cases hlt : j < xs.length
      · refine W.iteT rfl (by simp; omega) (W.step tab_ok rfl rfl ?_)
        have hld := int_at hlx hcx hlt
        have hnx : xs.take (j + 1) = xs.take j ++ [xs[j]] := by rw [List.take_add_one]; simp [hlt]
        have hmem : xs[j] ∈ xs := List.getElem_mem hlt
        generalize xs[j] = x at hld hnx hmem
        refine W.val (OpVal.ixSl tab_ok rfl rfl rfl rfl rfl hlt) (by exact Nat.le_of_ble_eq_true rfl) (W.step tab_ok rfl rfl ?_)
        refine W.val (OpVal.load tab_ok rfl (at_ro 0 rfl) hld) (by exact Nat.le_of_ble_eq_true rfl) (W.step tab_ok rfl rfl ?_)
        refine W.call rfl rfl rfl rfl (New_spec x) (by repeat (first | exact Sel.nil | (apply Sel.cons; (repeat (first | exact Pick.here | apply Pick.there))))) (by repeat (first | exact RoIn.nil | exact RoIn.same | refine RoIn.cons (by first | exact at_own 0 rfl | exact at_own 1 rfl | exact at_own 2 rfl | exact at_own 3 rfl | exact at_own 4 rfl | exact at_own 5 rfl | exact at_own 6 rfl | exact at_own 7 rfl | exact at_own 8 rfl | exact at_own 9 rfl | exact at_own 10 rfl | exact at_own 11 rfl | exact at_ro 0 rfl | exact at_ro 1 rfl | exact at_ro 2 rfl | exact at_ro 3 rfl | exact at_ro 4 rfl | exact at_ro 5 rfl) ?_ | refine RoIn.append ?_ ?_ | exact RoIn.own 0 rfl | exact RoIn.own 1 rfl | exact RoIn.own 2 rfl | exact RoIn.own 3 rfl | exact RoIn.own 4 rfl | exact RoIn.own 5 rfl | exact RoIn.own 6 rfl | exact RoIn.own 7 rfl | exact RoIn.own 8 rfl | exact RoIn.own 9 rfl | exact RoIn.own 10 rfl | exact RoIn.own 11 rfl | (intro p hp; simp [hp]; done))) (by exact Nat.le_of_ble_eq_true rfl) ?_
        rintro _ _ (⟨hno, rfl, rfl⟩ | ⟨hyes, b2, H2, rfl, rfl, hp2⟩)
        · refine W.step tab_ok rfl rfl ?_
          refine W.iteT rfl (by rfl) (W.step tab_ok rfl rfl ?_)
          refine W.ret (fin _ _ (FinOk.mk' ([]) (.tmp rfl (.tmp rfl .nil)) (by repeat (first | exact Sel.nil | (apply Sel.cons; (repeat (first | exact Pick.here | apply Pick.there))))) rfl ?_))
          exact .inl ⟨fun h => hno (h.2.2.1 x hmem), rfl, rfl⟩
        · refine W.step tab_ok rfl rfl ?_
          refine W.iteF rfl (by rfl) (W.step tab_ok rfl rfl ?_)
          repeat (first | (refine W.isLoad ?_; refine W.val (OpVal.load tab_ok rfl (by first | exact at_own 0 rfl | exact at_own 1 rfl | exact at_own 2 rfl | exact at_own 3 rfl | exact at_own 4 rfl | exact at_own 5 rfl | exact at_own 6 rfl | exact at_own 7 rfl | exact at_own 8 rfl | exact at_own 9 rfl | exact at_own 10 rfl | exact at_own 11 rfl | exact at_ro 0 rfl | exact at_ro 1 rfl | exact at_ro 2 rfl | exact at_ro 3 rfl) (by rfl)) (by exact Nat.le_of_ble_eq_true rfl) ?_; refine W.step tab_ok rfl rfl ?_) | (refine W.isStore ?_; refine W.store tab_ok rfl (by first | exact Upd.here | exact (Upd.there Upd.here) | exact (Upd.there (Upd.there Upd.here)) | exact (Upd.there (Upd.there (Upd.there Upd.here))) | exact (Upd.there (Upd.there (Upd.there (Upd.there Upd.here)))) | exact (Upd.there (Upd.there (Upd.there (Upd.there (Upd.there Upd.here))))) | exact (Upd.there (Upd.there (Upd.there (Upd.there (Upd.there (Upd.there Upd.here)))))) | exact (Upd.there (Upd.there (Upd.there (Upd.there (Upd.there (Upd.there (Upd.there Upd.here))))))) | exact (Upd.there (Upd.there (Upd.there (Upd.there (Upd.there (Upd.there (Upd.there (Upd.there Upd.here)))))))) | exact (Upd.there (Upd.there (Upd.there (Upd.there (Upd.there (Upd.there (Upd.there (Upd.there (Upd.there Upd.here))))))))) | exact (Upd.there (Upd.there (Upd.there (Upd.there (Upd.there (Upd.there (Upd.there (Upd.there (Upd.there (Upd.there Upd.here)))))))))) | exact (Upd.there (Upd.there (Upd.there (Upd.there (Upd.there (Upd.there (Upd.there (Upd.there (Upd.there (Upd.there (Upd.there Upd.here)))))))))))) rfl rfl rfl rfl rfl (by rfl) ?_; refine W.step tab_ok rfl rfl ?_) | (refine W.isNew ?_; refine W.new tab_ok rfl rfl (by exact Nat.le_of_ble_eq_true rfl) ?_; intro _; refine W.step tab_ok rfl rfl ?_) | (refine W.isBox ?_; refine W.box rfl rfl (by exact Nat.le_of_ble_eq_true rfl) ?_; intro _; refine W.step tab_ok rfl rfl ?_))
          refine W.slit (ps := [_]) tab_ok rfl rfl rfl rfl rfl rfl rfl (by repeat (first | exact trivial | refine ⟨⟨_, _, _, rfl, rfl, rfl⟩, ?_⟩)) rfl (by exact Nat.le_of_ble_eq_true rfl) (by exact Nat.le_of_ble_eq_true rfl) ?_
          intro bt
          refine W.step tab_ok rfl rfl ?_
          refine W.prim (app tab_ok rfl rfl rfl (hown) (by intro p hp; simp [hp]) rfl (by first | exact at_own 0 rfl | exact at_own 1 rfl | exact at_own 2 rfl | exact at_own 3 rfl | exact at_own 4 rfl | exact at_own 5 rfl | exact at_own 6 rfl | exact at_own 7 rfl | exact at_own 8 rfl | exact at_own 9 rfl | exact at_own 10 rfl | exact at_own 11 rfl | exact at_ro 0 rfl | exact at_ro 1 rfl | exact at_ro 2 rfl | exact at_ro 3 rfl | exact at_ro 4 rfl | exact at_ro 5 rfl) rfl rfl (by omega) (by omega)) (by repeat (first | exact Sel.nil | (apply Sel.cons; (repeat (first | exact Pick.here | apply Pick.there))))) (by exact Nat.le_of_ble_eq_true rfl) ?_
          rintro _ _ ⟨_, _, _, rfl, rfl, ho⟩
          refine W.step tab_ok rfl rfl ?_
          repeat (first | (refine W.isLoad ?_; refine W.val (OpVal.load tab_ok rfl (by first | exact at_own 0 rfl | exact at_own 1 rfl | exact at_own 2 rfl | exact at_own 3 rfl | exact at_own 4 rfl | exact at_own 5 rfl | exact at_own 6 rfl | exact at_own 7 rfl | exact at_own 8 rfl | exact at_own 9 rfl | exact at_own 10 rfl | exact at_own 11 rfl | exact at_ro 0 rfl | exact at_ro 1 rfl | exact at_ro 2 rfl | exact at_ro 3 rfl) (by rfl)) (by exact Nat.le_of_ble_eq_true rfl) ?_; refine W.step tab_ok rfl rfl ?_) | (refine W.isStore ?_; refine W.store tab_ok rfl (by first | exact Upd.here | exact (Upd.there Upd.here) | exact (Upd.there (Upd.there Upd.here)) | exact (Upd.there (Upd.there (Upd.there Upd.here))) | exact (Upd.there (Upd.there (Upd.there (Upd.there Upd.here)))) | exact (Upd.there (Upd.there (Upd.there (Upd.there (Upd.there Upd.here))))) | exact (Upd.there (Upd.there (Upd.there (Upd.there (Upd.there (Upd.there Upd.here)))))) | exact (Upd.there (Upd.there (Upd.there (Upd.there (Upd.there (Upd.there (Upd.there Upd.here))))))) | exact (Upd.there (Upd.there (Upd.there (Upd.there (Upd.there (Upd.there (Upd.there (Upd.there Upd.here)))))))) | exact (Upd.there (Upd.there (Upd.there (Upd.there (Upd.there (Upd.there (Upd.there (Upd.there (Upd.there Upd.here))))))))) | exact (Upd.there (Upd.there (Upd.there (Upd.there (Upd.there (Upd.there (Upd.there (Upd.there (Upd.there (Upd.there Upd.here)))))))))) | exact (Upd.there (Upd.there (Upd.there (Upd.there (Upd.there (Upd.there (Upd.there (Upd.there (Upd.there (Upd.there (Upd.there Upd.here)))))))))))) rfl rfl rfl rfl rfl (by rfl) ?_; refine W.step tab_ok rfl rfl ?_) | (refine W.isNew ?_; refine W.new tab_ok rfl rfl (by exact Nat.le_of_ble_eq_true rfl) ?_; intro _; refine W.step tab_ok rfl rfl ?_) | (refine W.isBox ?_; refine W.box rfl rfl (by exact Nat.le_of_ble_eq_true rfl) ?_; intro _; refine W.step tab_ok rfl rfl ?_))
          refine W.val (OpVal.add rfl rfl (i64_in _ (by omega))) (by exact Nat.le_of_ble_eq_true rfl) (W.step tab_ok rfl rfl ?_)
          refine W.groupV [4, 2] rfl ?_
          have hpts2 := hpts.snoc hp2
          have e1 : made (xs.take (j + 1)) = made (xs.take j) ++ [Pt.new x.toNat] := by rw [hnx]; simp [made]
          rw [← e1] at hpts2
          have hall2 : ∀ n ∈ xs.take (j + 1), 1 ≤ n ∧ n ≤ 64 := by
            intro n hn
            rw [hnx] at hn
            rcases List.mem_append.1 hn with hn | hn
            · exact hall n hn
            · simp at hn; subst hn; exact hyes
          have epr : ptrs (bs ++ [b2]) = ptrs bs ++ [.pointer (some ⟨b2, 0, none⟩)] := by simp [ptrs]
          rw [← epr] at ho
          refine W.rnd _ _ (by repeat (first | exact trivial | refine ⟨rfl, ?_⟩)) (by repeat (first | exact Sel.nil | (apply Sel.cons; (repeat (first | exact Pick.here | apply Pick.there))))) (⟨xs.length - (j + 1), by omega, j + 1, bs ++ [b2], _, _, _, _, by omega, hall2, ho, hpts2, rfl, rfl, rfl⟩)
      · refine W.iteF rfl (by simp; omega) (W.step tab_ok rfl rfl ?_)
        have hjn : j = xs.length := by omega
        subst hjn
        rw [List.take_length] at hall hpts
        have hml : (made xs).length = xs.length := by simp [made]
        obtain ⟨bl, ll, rfl, rfl, hlc, hll, htk⟩ := hown.some (by omega)
        rw [Nat.mul_one] at htk
        have hA : ArAt (made xs) b ((b, .cells #[.slice (some ⟨bl, 0, none⟩) xs.length cc] 86 (0, 0)) :: (bl, .cells (List.toArray ll) 37 (0, 0)) :: Hp) := ⟨bs, bl, ll, cc, Hp, by rw [hml], by rw [hml]; exact hlc, by rw [hml]; exact htk, hpts⟩
        have hF := Frames_spec (made xs) (made_ok hall) (by omega) b _ hA
        refine W.groupV [0, 0, 0] rfl ?_
        refine W.step tab_ok rfl rfl ?_
        refine W.call rfl rfl rfl rfl (hF) (by repeat (first | exact Sel.nil | (apply Sel.cons; (repeat (first | exact Pick.here | apply Pick.there))))) (by repeat (first | exact RoIn.nil | exact RoIn.same | refine RoIn.cons (by first | exact at_own 0 rfl | exact at_own 1 rfl | exact at_own 2 rfl | exact at_own 3 rfl | exact at_own 4 rfl | exact at_own 5 rfl | exact at_own 6 rfl | exact at_own 7 rfl | exact at_own 8 rfl | exact at_own 9 rfl | exact at_own 10 rfl | exact at_own 11 rfl | exact at_ro 0 rfl | exact at_ro 1 rfl | exact at_ro 2 rfl | exact at_ro 3 rfl | exact at_ro 4 rfl | exact at_ro 5 rfl) ?_ | refine RoIn.append ?_ ?_ | exact RoIn.own 0 rfl | exact RoIn.own 1 rfl | exact RoIn.own 2 rfl | exact RoIn.own 3 rfl | exact RoIn.own 4 rfl | exact RoIn.own 5 rfl | exact RoIn.own 6 rfl | exact RoIn.own 7 rfl | exact RoIn.own 8 rfl | exact RoIn.own 9 rfl | exact RoIn.own 10 rfl | exact RoIn.own 11 rfl | (intro p hp; simp [hp]; done))) (by exact Nat.le_of_ble_eq_true rfl) ?_
        rintro _ _ ⟨rfl, rfl⟩
        refine W.step tab_ok rfl rfl ?_
        by_cases h64 : 64 < tot flen (made xs)
        · refine W.iteT rfl (by simp [h64]) (W.step tab_ok rfl rfl ?_)
          refine W.ret (fin _ _ (FinOk.mk' ([]) (.tmp rfl (.tmp rfl .nil)) (by repeat (first | exact Sel.nil | (apply Sel.cons; (repeat (first | exact Pick.here | apply Pick.there))))) rfl ?_))
          exact .inl ⟨fun h => by have := h.2.2.2; omega, rfl, rfl⟩
        · refine W.iteF rfl (by simp [h64]) (W.step tab_ok rfl rfl ?_)
          refine W.ret (fin _ _ (FinOk.first 1 (.tmp rfl (.tmp rfl .nil)) rfl ?_))
          exact .inr ⟨⟨by omega, by omega, hall, by omega⟩, b, _, rfl, rfl, hA⟩
end Go.Proofs.Ytdhjmeoppmpilaa
