/-
  Contracts of Of and of the layer's example; the law ArenaSums.
-/
import Derived.Test.YtdhjmeoppmpilaaAb
import Derived.Test.YtdhjmeoppmpilaaAr
namespace Go.Proofs.Ytdhjmeoppmpilaa
open Go Go.Sl Go.IntWalk
set_option maxHeartbeats 2000000
/-- Frame number 'at' is in the partition i. -/
def InPart (ps : List Pt) (at_ : Int) (i : Nat) : Prop := i < ps.length ∧ tot flen (ps.take i) ≤ at_ ∧ at_ < tot flen (ps.take (i + 1))
theorem Of_spec (ps : List Pt) (hok : ∀ p ∈ ps, p.Ok) (hn : ps.length ≤ 1000) (b : Nat) (H : HL) (ha : ArAt ps b H) (at_ : Int) (hat : i64s at_) :
    Ctr Try.prog 21 [.pointer (some ⟨b, 0, none⟩), .int .i64 at_] [] H (fun v L' => L' = [] ∧
      ((v = .tuple #[.int .i64 0, .int .i64 0, .bool false] ∧ (at_ < 0 ∨ tot flen ps ≤ at_)) ∨ ∃ i : Nat, v = .tuple #[.int .i64 (i : Int), .int .i64 (at_ - tot flen (ps.take i)), .bool true] ∧ 0 ≤ at_ ∧ InPart ps at_ i)) := by
  have hS := Start_spec ps hok hn b H ha
  obtain ⟨bs, bl, l, cap, Hp, rfl, hc, hl, hps⟩ := ha
  refine Ctr.enter (n := 36) [.tmp 4, .tmp 5, .tmp 6] [(0, _), (1, _)] Try.func21 rfl rfl rfl (Nat.le_of_ble_eq_true rfl) Try.call21 ⟨rfl, rfl, trivial⟩ ?_
  intro cx fin fin0
  refine W.step tab_ok rfl rfl ?_
  repeat (first | (refine W.isLoad ?_; refine W.val (OpVal.load tab_ok rfl (by first | exact at_own 0 rfl | exact at_own 1 rfl | exact at_own 2 rfl | exact at_own 3 rfl | exact at_own 4 rfl | exact at_own 5 rfl | exact at_own 6 rfl | exact at_own 7 rfl | exact at_own 8 rfl | exact at_own 9 rfl | exact at_own 10 rfl | exact at_own 11 rfl | exact at_ro 0 rfl | exact at_ro 1 rfl | exact at_ro 2 rfl | exact at_ro 3 rfl) (by rfl)) (by exact Nat.le_of_ble_eq_true rfl) ?_; refine W.step tab_ok rfl rfl ?_) | (refine W.isStore ?_; refine W.store tab_ok rfl (by first | exact Upd.here | exact (Upd.there Upd.here) | exact (Upd.there (Upd.there Upd.here)) | exact (Upd.there (Upd.there (Upd.there Upd.here))) | exact (Upd.there (Upd.there (Upd.there (Upd.there Upd.here)))) | exact (Upd.there (Upd.there (Upd.there (Upd.there (Upd.there Upd.here))))) | exact (Upd.there (Upd.there (Upd.there (Upd.there (Upd.there (Upd.there Upd.here)))))) | exact (Upd.there (Upd.there (Upd.there (Upd.there (Upd.there (Upd.there (Upd.there Upd.here))))))) | exact (Upd.there (Upd.there (Upd.there (Upd.there (Upd.there (Upd.there (Upd.there (Upd.there Upd.here)))))))) | exact (Upd.there (Upd.there (Upd.there (Upd.there (Upd.there (Upd.there (Upd.there (Upd.there (Upd.there Upd.here))))))))) | exact (Upd.there (Upd.there (Upd.there (Upd.there (Upd.there (Upd.there (Upd.there (Upd.there (Upd.there (Upd.there Upd.here)))))))))) | exact (Upd.there (Upd.there (Upd.there (Upd.there (Upd.there (Upd.there (Upd.there (Upd.there (Upd.there (Upd.there (Upd.there Upd.here)))))))))))) rfl rfl rfl rfl rfl (by rfl) ?_; refine W.step tab_ok rfl rfl ?_) | (refine W.isNew ?_; refine W.new tab_ok rfl rfl (by exact Nat.le_of_ble_eq_true rfl) ?_; intro _; refine W.step tab_ok rfl rfl ?_) | (refine W.isBox ?_; refine W.box rfl rfl (by exact Nat.le_of_ble_eq_true rfl) ?_; intro _; refine W.step tab_ok rfl rfl ?_))
  refine W.loop (fun m ρ1 L1 => ∃ (j : Nat), j ≤ ps.length ∧ (at_ < 0 ∨ tot flen (ps.take j) ≤ at_) ∧ m = ps.length - j ∧ ρ1 = [(15, .int .i64 (j : Int)), (14, .int .i64 (ps.length : Int)), (13, .slice (some ⟨bl, 0, none⟩) ps.length cap), (0, .pointer (some ⟨b, 0, none⟩)), (1, .int .i64 at_)] ∧ L1 = []) _ _ _ (by repeat (first | exact trivial | refine ⟨rfl, ?_⟩)) (by repeat (first | exact Sel.nil | (apply Sel.cons; (repeat (first | exact Pick.here | apply Pick.there))))) (⟨0, Nat.zero_le _, by unfold tot; simp; omega, rfl, rfl, rfl⟩) ?_
  rintro m ρ1 L1 ⟨j, hj, hs, rfl, rfl, rfl⟩
  refine W.step tab_ok rfl rfl ?_
  by_cases hlt : j < ps.length
  · refine W.iteT rfl (by simp; omega) (W.step tab_ok rfl rfl ?_)
    obtain ⟨bj, Hj, g1, g2, g3⟩ := hps.get hlt
    have hld := ptr_at hl hlt g1
    have hnx := tot_next flen hlt
    have hb := tot_bound flen (ps := ps.take j) (fun p hp => flen_ok (hok p (List.mem_of_mem_take hp)))
    have hb2 := flen_ok (hok _ (List.getElem_mem hlt))
    have hcall := PLen_spec _ _ _ g2
    have hst : startOf ps (j : Int) = tot flen (ps.take j) := by unfold startOf; rw [if_pos (by omega), Int.toNat_natCast]
    have hSj := hS (j : Int)
    rw [hst] at hSj
    have hlen : (ps.take j).length ≤ 1000 := by simp; omega
    have hfl : ((ps[j].fs.length : Nat) : Int) = flen ps[j] := rfl
    rw [hfl] at hcall
    generalize hx : flen ps[j] = x at hnx hb2 hcall
    generalize hT : tot flen (ps.take j) = T at *
    refine W.val (OpVal.ixSl tab_ok rfl rfl rfl rfl rfl hlt) (by exact Nat.le_of_ble_eq_true rfl) (W.step tab_ok rfl rfl ?_)
    refine W.val (OpVal.load tab_ok rfl (at_ro 1 rfl) hld) (by exact Nat.le_of_ble_eq_true rfl) (W.step tab_ok rfl rfl ?_)
    refine W.call rfl rfl rfl rfl (hSj) (by repeat (first | exact Sel.nil | (apply Sel.cons; (repeat (first | exact Pick.here | apply Pick.there))))) (RoIn.same) (by exact Nat.le_of_ble_eq_true rfl) ?_
    rintro _ _ ⟨rfl, rfl⟩
    refine W.step tab_ok rfl rfl ?_
    refine W.val (OpVal.sub rfl rfl (rfl)) (by exact Nat.le_of_ble_eq_true rfl) (W.step tab_ok rfl rfl ?_)
    by_cases h0 : 0 ≤ at_
    · have hw : IntKind.i64.wrap (at_ - T) = at_ - T := wrap_in ⟨by omega, by have := hat.2; omega⟩
      rw [hw]
      refine W.guardGo rfl rfl (by simp [h0]) (W.step tab_ok rfl rfl ?_)
      refine W.guardGo rfl rfl (by simp [h0]) (W.step tab_ok rfl rfl ?_)
      refine W.guardGo rfl rfl (by simp [h0]) (W.step tab_ok rfl rfl ?_)
      refine W.call rfl rfl rfl rfl (hcall) (by repeat (first | exact Sel.nil | (apply Sel.cons; (repeat (first | exact Pick.here | apply Pick.there))))) (RoIn.all (fun p hp => List.mem_cons_of_mem _ (List.mem_cons_of_mem _ (g3 p hp)))) (by exact Nat.le_of_ble_eq_true rfl) ?_
      rintro _ _ ⟨rfl, rfl⟩
      refine W.step tab_ok rfl rfl ?_
      refine W.guardGo rfl rfl (by simp [h0]) (W.step tab_ok rfl rfl ?_)
      refine W.val (OpVal.pickT rfl (by simp [h0]) rfl) (by exact Nat.le_of_ble_eq_true rfl) (W.step tab_ok rfl rfl ?_)
      by_cases h1 : at_ - T < x
      · refine W.iteT rfl (by simp [h1]) (W.step tab_ok rfl rfl ?_)
        refine W.ret (fin _ _ (FinOk.mk' ([]) (.tmp rfl (.tmp rfl (.tmp rfl .nil))) (by repeat (first | exact Sel.nil | (apply Sel.cons; (repeat (first | exact Pick.here | apply Pick.there))))) rfl ?_))
        exact ⟨rfl, .inr ⟨j, by rw [hT]; rfl, h0, hlt, by omega, by omega⟩⟩
      · refine W.iteF rfl (by simp [h1]) (W.step tab_ok rfl rfl ?_)
        refine W.val (OpVal.add rfl rfl (i64_in _ (by omega))) (by exact Nat.le_of_ble_eq_true rfl) (W.step tab_ok rfl rfl ?_)
        refine W.rnd _ _ (by repeat (first | exact trivial | refine ⟨rfl, ?_⟩)) (by repeat (first | exact Sel.nil | (apply Sel.cons; (repeat (first | exact Pick.here | apply Pick.there))))) (⟨ps.length - (j + 1), by omega, j + 1, by omega, by omega, rfl, rfl, rfl⟩)
    · refine W.guardSkip rfl rfl (by simp [h0]) (by exact Nat.le_of_ble_eq_true rfl) (W.step tab_ok rfl rfl ?_)
      refine W.guardSkip rfl rfl (by simp [h0]) (by exact Nat.le_of_ble_eq_true rfl) (W.step tab_ok rfl rfl ?_)
      refine W.guardSkip rfl rfl (by simp [h0]) (by exact Nat.le_of_ble_eq_true rfl) (W.step tab_ok rfl rfl ?_)
      refine W.guardSkip rfl rfl (by simp [h0]) (by exact Nat.le_of_ble_eq_true rfl) (W.step tab_ok rfl rfl ?_)
      refine W.val (OpVal.pickF rfl (by simp [h0]) rfl) (by exact Nat.le_of_ble_eq_true rfl) (W.step tab_ok rfl rfl ?_)
      refine W.iteF rfl (by rfl) (W.step tab_ok rfl rfl ?_)
      refine W.val (OpVal.add rfl rfl (i64_in _ (by omega))) (by exact Nat.le_of_ble_eq_true rfl) (W.step tab_ok rfl rfl ?_)
      refine W.rnd _ _ (by repeat (first | exact trivial | refine ⟨rfl, ?_⟩)) (by repeat (first | exact Sel.nil | (apply Sel.cons; (repeat (first | exact Pick.here | apply Pick.there))))) (⟨ps.length - (j + 1), by omega, j + 1, by omega, by omega, rfl, rfl, rfl⟩)
  · refine W.iteF rfl (by simp; omega) (W.step tab_ok rfl rfl ?_)
    have : j = ps.length := by omega
    subst this
    refine W.ret (fin _ _ (FinOk.mk' ([]) (.tmp rfl (.tmp rfl (.tmp rfl .nil))) (by repeat (first | exact Sel.nil | (apply Sel.cons; (repeat (first | exact Pick.here | apply Pick.there))))) rfl ?_))
    exact ⟨rfl, .inl ⟨rfl, by rw [List.take_length] at hs; exact hs⟩⟩
theorem lives_spec : Ctr Try.prog 16 [] [] [] (fun v L' => v = .bool true ∧ L' = []) := by
  refine Ctr.enter (n := 42) [.tmp 0] [] Try.func16 rfl rfl rfl (Nat.le_of_ble_eq_true rfl) Try.call16 trivial ?_
  intro cx fin fin0
  refine W.step tab_ok rfl rfl ?_
  refine W.slit (ps := [_, _]) tab_ok rfl rfl rfl rfl rfl rfl rfl (by repeat (first | exact trivial | refine ⟨⟨_, _, _, rfl, rfl, rfl⟩, ?_⟩)) rfl (by exact Nat.le_of_ble_eq_true rfl) (by exact Nat.le_of_ble_eq_true rfl) ?_
  intro bt
  refine W.step tab_ok rfl rfl ?_
  refine W.call rfl rfl rfl rfl (Cut_spec [2, 3] (some ⟨bt, 0, none⟩) 2 [(bt, .cells #[.int .i64 2, .int .i64 3] 3 (0, 0))] ⟨rfl, .inr ⟨bt, 0, _, _, _, rfl, rfl, by decide, rfl⟩⟩) (by repeat (first | exact Sel.nil | (apply Sel.cons; (repeat (first | exact Pick.here | apply Pick.there))))) (by repeat (first | exact RoIn.nil | exact RoIn.same | refine RoIn.cons (by first | exact at_own 0 rfl | exact at_own 1 rfl | exact at_own 2 rfl | exact at_own 3 rfl | exact at_own 4 rfl | exact at_own 5 rfl | exact at_own 6 rfl | exact at_own 7 rfl | exact at_own 8 rfl | exact at_own 9 rfl | exact at_own 10 rfl | exact at_own 11 rfl | exact at_ro 0 rfl | exact at_ro 1 rfl | exact at_ro 2 rfl | exact at_ro 3 rfl | exact at_ro 4 rfl | exact at_ro 5 rfl) ?_ | refine RoIn.append ?_ ?_ | exact RoIn.own 0 rfl | exact RoIn.own 1 rfl | exact RoIn.own 2 rfl | exact RoIn.own 3 rfl | exact RoIn.own 4 rfl | exact RoIn.own 5 rfl | exact RoIn.own 6 rfl | exact RoIn.own 7 rfl | exact RoIn.own 8 rfl | exact RoIn.own 9 rfl | exact RoIn.own 10 rfl | exact RoIn.own 11 rfl | (intro p hp; simp [hp]; done))) (by exact Nat.le_of_ble_eq_true rfl) ?_
  rintro _ _ (⟨hno, rfl, rfl⟩ | ⟨hyes, b, H, rfl, rfl, ha⟩)
  · exact absurd ⟨by decide, by decide, by decide, by decide⟩ hno
  · have hok := made_ok hyes.2.2.1
    have hl : (made [2, 3]).length ≤ 1000 := by decide
    refine W.step tab_ok rfl rfl ?_
    refine W.val (OpVal.eqNil tab_ok rfl rfl rfl) (by exact Nat.le_of_ble_eq_true rfl) (W.step tab_ok rfl rfl ?_)
    refine W.guardGo rfl rfl (by rfl) (W.step tab_ok rfl rfl ?_)
    refine W.guardGo rfl rfl (by rfl) (W.step tab_ok rfl rfl ?_)
    refine W.val (OpVal.pickF rfl (by rfl) rfl) (by exact Nat.le_of_ble_eq_true rfl) (W.step tab_ok rfl rfl ?_)
    refine W.iteF rfl (by rfl) (W.step tab_ok rfl rfl ?_)
    refine W.call rfl rfl rfl rfl (Of_spec (made [2, 3]) hok hl b H ha 3 ⟨by decide, by decide⟩) (by repeat (first | exact Sel.nil | (apply Sel.cons; (repeat (first | exact Pick.here | apply Pick.there))))) (by repeat (first | exact RoIn.nil | exact RoIn.same | refine RoIn.cons (by first | exact at_own 0 rfl | exact at_own 1 rfl | exact at_own 2 rfl | exact at_own 3 rfl | exact at_own 4 rfl | exact at_own 5 rfl | exact at_own 6 rfl | exact at_own 7 rfl | exact at_own 8 rfl | exact at_own 9 rfl | exact at_own 10 rfl | exact at_own 11 rfl | exact at_ro 0 rfl | exact at_ro 1 rfl | exact at_ro 2 rfl | exact at_ro 3 rfl | exact at_ro 4 rfl | exact at_ro 5 rfl) ?_ | refine RoIn.append ?_ ?_ | exact RoIn.own 0 rfl | exact RoIn.own 1 rfl | exact RoIn.own 2 rfl | exact RoIn.own 3 rfl | exact RoIn.own 4 rfl | exact RoIn.own 5 rfl | exact RoIn.own 6 rfl | exact RoIn.own 7 rfl | exact RoIn.own 8 rfl | exact RoIn.own 9 rfl | exact RoIn.own 10 rfl | exact RoIn.own 11 rfl | (intro p hp; simp [hp]; done))) (by exact Nat.le_of_ble_eq_true rfl) ?_
    rintro _ _ ⟨rfl, ⟨rfl, hno⟩ | ⟨i, rfl, _, hi⟩⟩
    · exact absurd hno (by decide)
    · have hi1 : i = 1 := by
        obtain ⟨h1, h2, h3⟩ := hi
        have h4 : i < 2 := h1
        have : i = 0 ∨ i = 1 := by omega
        rcases this with rfl | rfl
        · exact absurd h3 (by decide)
        · rfl
      subst hi1
      have e : (3 : Int) - tot flen ((made [2, 3]).take 1) = 1 := by decide
      rw [e]
      have hF := Frames_spec (made [2, 3]) hok hl b H ha
      have hS := Start_spec (made [2, 3]) hok hl b H ha 1
      rw [show tot flen (made [2, 3]) = 5 from by decide] at hF
      rw [show startOf (made [2, 3]) 1 = 2 from by decide] at hS
      refine W.step tab_ok rfl rfl ?_
      refine W.guardGo rfl rfl (by rfl) (W.step tab_ok rfl rfl ?_)
      refine W.guardGo rfl rfl (by rfl) (W.step tab_ok rfl rfl ?_)
      refine W.val (OpVal.pickT rfl (by rfl) rfl) (by exact Nat.le_of_ble_eq_true rfl) (W.step tab_ok rfl rfl ?_)
      refine W.guardGo rfl rfl (by rfl) (W.step tab_ok rfl rfl ?_)
      refine W.guardGo rfl rfl (by rfl) (W.step tab_ok rfl rfl ?_)
      refine W.val (OpVal.pickT rfl (by rfl) rfl) (by exact Nat.le_of_ble_eq_true rfl) (W.step tab_ok rfl rfl ?_)
      refine W.guardGo rfl rfl (by rfl) (W.step tab_ok rfl rfl ?_)
      refine W.guardGo rfl rfl (by rfl) (W.step tab_ok rfl rfl ?_)
      refine W.call rfl rfl rfl rfl (hF) (by repeat (first | exact Sel.nil | (apply Sel.cons; (repeat (first | exact Pick.here | apply Pick.there))))) (by repeat (first | exact RoIn.nil | exact RoIn.same | refine RoIn.cons (by first | exact at_own 0 rfl | exact at_own 1 rfl | exact at_own 2 rfl | exact at_own 3 rfl | exact at_own 4 rfl | exact at_own 5 rfl | exact at_own 6 rfl | exact at_own 7 rfl | exact at_own 8 rfl | exact at_own 9 rfl | exact at_own 10 rfl | exact at_own 11 rfl | exact at_ro 0 rfl | exact at_ro 1 rfl | exact at_ro 2 rfl | exact at_ro 3 rfl | exact at_ro 4 rfl | exact at_ro 5 rfl) ?_ | refine RoIn.append ?_ ?_ | exact RoIn.own 0 rfl | exact RoIn.own 1 rfl | exact RoIn.own 2 rfl | exact RoIn.own 3 rfl | exact RoIn.own 4 rfl | exact RoIn.own 5 rfl | exact RoIn.own 6 rfl | exact RoIn.own 7 rfl | exact RoIn.own 8 rfl | exact RoIn.own 9 rfl | exact RoIn.own 10 rfl | exact RoIn.own 11 rfl | (intro p hp; simp [hp]; done))) (by exact Nat.le_of_ble_eq_true rfl) ?_
      rintro _ _ ⟨rfl, rfl⟩
      refine W.step tab_ok rfl rfl ?_
      refine W.guardGo rfl rfl (by rfl) (W.step tab_ok rfl rfl ?_)
      refine W.val (OpVal.pickT rfl (by rfl) rfl) (by exact Nat.le_of_ble_eq_true rfl) (W.step tab_ok rfl rfl ?_)
      refine W.guardGo rfl rfl (by rfl) (W.step tab_ok rfl rfl ?_)
      refine W.guardGo rfl rfl (by rfl) (W.step tab_ok rfl rfl ?_)
      refine W.call rfl rfl rfl rfl (hS) (by repeat (first | exact Sel.nil | (apply Sel.cons; (repeat (first | exact Pick.here | apply Pick.there))))) (by repeat (first | exact RoIn.nil | exact RoIn.same | refine RoIn.cons (by first | exact at_own 0 rfl | exact at_own 1 rfl | exact at_own 2 rfl | exact at_own 3 rfl | exact at_own 4 rfl | exact at_own 5 rfl | exact at_own 6 rfl | exact at_own 7 rfl | exact at_own 8 rfl | exact at_own 9 rfl | exact at_own 10 rfl | exact at_own 11 rfl | exact at_ro 0 rfl | exact at_ro 1 rfl | exact at_ro 2 rfl | exact at_ro 3 rfl | exact at_ro 4 rfl | exact at_ro 5 rfl) ?_ | refine RoIn.append ?_ ?_ | exact RoIn.own 0 rfl | exact RoIn.own 1 rfl | exact RoIn.own 2 rfl | exact RoIn.own 3 rfl | exact RoIn.own 4 rfl | exact RoIn.own 5 rfl | exact RoIn.own 6 rfl | exact RoIn.own 7 rfl | exact RoIn.own 8 rfl | exact RoIn.own 9 rfl | exact RoIn.own 10 rfl | exact RoIn.own 11 rfl | (intro p hp; simp [hp]; done))) (by exact Nat.le_of_ble_eq_true rfl) ?_
      rintro _ _ ⟨rfl, rfl⟩
      refine W.step tab_ok rfl rfl ?_
      refine W.guardGo rfl rfl (by rfl) (W.step tab_ok rfl rfl ?_)
      refine W.val (OpVal.pickT rfl (by rfl) rfl) (by exact Nat.le_of_ble_eq_true rfl) (W.step tab_ok rfl rfl ?_)
      refine W.ret (fin _ _ (FinOk.mk' ([]) (.tmp rfl .nil) (by repeat (first | exact Sel.nil | (apply Sel.cons; (repeat (first | exact Pick.here | apply Pick.there))))) rfl ?_))
      exact ⟨rfl, rfl⟩
def isum (ls : List Int) : Int := ls.foldl (· + ·) 0
theorem tot_made {ls : List Int} (h : ∀ n ∈ ls, 0 ≤ n) : tot flen (made ls) = isum ls := by
  unfold tot made isum
  have : ∀ (ls : List Int) (a : Int), (∀ n ∈ ls, 0 ≤ n) → (ls.map fun n => Pt.new n.toNat).foldl (fun a p => a + flen p) a = ls.foldl (· + ·) a := by
    intro ls
    induction ls with
    | nil => intro a _; rfl
    | cons x ls ih =>
      intro a h
      have h1 := h x (by simp)
      have e : flen (Pt.new x.toNat) = x := by simp [flen, Pt.new]; omega
      simp only [List.map_cons, List.foldl_cons, e]
      exact ih _ (fun n hn => h n (by simp [hn]))
  exact this ls 0 h
theorem isum_rep (n : Nat) (m : Int) : isum (List.replicate n m) = n * m := by
  unfold isum
  have : ∀ (n : Nat) (a : Int), (List.replicate n m).foldl (· + ·) a = a + n * m := by
    intro n
    induction n with
    | zero => intro a; simp
    | succ n ih => intro a; rw [List.replicate_succ, List.foldl_cons, ih, Int.natCast_succ, Int.add_mul]; omega
  rw [this, Int.zero_add]
theorem made_take (ls : List Int) (i : Nat) : (made ls).take i = made (ls.take i) := by simp [made, List.map_take]
theorem ints_rep (n : Nat) (m : Int) : ints (List.replicate n m ++ [m]) = ints (List.replicate n m) ++ [.int .i64 m] := by simp [ints]
theorem ArenaSums_spec (x y : Int) (hx : i64s x) (hy : i64s y) : Ctr Try.prog 3 [.int .i64 x, .int .i64 y] [] [] (fun v L' => v = .bool true ∧ L' = []) := by
  refine Ctr.enter (n := 76) [.tmp 4] [(0, _), (1, _)] Try.func3 rfl rfl rfl (Nat.le_of_ble_eq_true rfl) Try.call3 ⟨rfl, rfl, trivial⟩ ?_
  intro cx fin fin0
  refine W.step tab_ok rfl rfl ?_
  refine W.call rfl rfl rfl rfl (Around_spec x 16 hx (by decide)) (by repeat (first | exact Sel.nil | (apply Sel.cons; (repeat (first | exact Pick.here | apply Pick.there))))) (by repeat (first | exact RoIn.nil | exact RoIn.same | refine RoIn.cons (by first | exact at_own 0 rfl | exact at_own 1 rfl | exact at_own 2 rfl | exact at_own 3 rfl | exact at_own 4 rfl | exact at_own 5 rfl | exact at_own 6 rfl | exact at_own 7 rfl | exact at_own 8 rfl | exact at_own 9 rfl | exact at_own 10 rfl | exact at_own 11 rfl | exact at_ro 0 rfl | exact at_ro 1 rfl | exact at_ro 2 rfl | exact at_ro 3 rfl | exact at_ro 4 rfl | exact at_ro 5 rfl) ?_ | refine RoIn.append ?_ ?_ | exact RoIn.own 0 rfl | exact RoIn.own 1 rfl | exact RoIn.own 2 rfl | exact RoIn.own 3 rfl | exact RoIn.own 4 rfl | exact RoIn.own 5 rfl | exact RoIn.own 6 rfl | exact RoIn.own 7 rfl | exact RoIn.own 8 rfl | exact RoIn.own 9 rfl | exact RoIn.own 10 rfl | exact RoIn.own 11 rfl | (intro p hp; simp [hp]; done))) (by exact Nat.le_of_ble_eq_true rfl) ?_
  rintro _ _ ⟨rfl, rfl⟩
  refine W.step tab_ok rfl rfl ?_
  have hn := around_range x 16 (by decide)
  generalize around x 16 = n0 at hn
  refine W.val (OpVal.add rfl rfl (i64_in _ (by omega))) (by exact Nat.le_of_ble_eq_true rfl) (W.step tab_ok rfl rfl ?_)
  refine W.call rfl rfl rfl rfl (Around_spec y 8 hy (by decide)) (by repeat (first | exact Sel.nil | (apply Sel.cons; (repeat (first | exact Pick.here | apply Pick.there))))) (by repeat (first | exact RoIn.nil | exact RoIn.same | refine RoIn.cons (by first | exact at_own 0 rfl | exact at_own 1 rfl | exact at_own 2 rfl | exact at_own 3 rfl | exact at_own 4 rfl | exact at_own 5 rfl | exact at_own 6 rfl | exact at_own 7 rfl | exact at_own 8 rfl | exact at_own 9 rfl | exact at_own 10 rfl | exact at_own 11 rfl | exact at_ro 0 rfl | exact at_ro 1 rfl | exact at_ro 2 rfl | exact at_ro 3 rfl | exact at_ro 4 rfl | exact at_ro 5 rfl) ?_ | refine RoIn.append ?_ ?_ | exact RoIn.own 0 rfl | exact RoIn.own 1 rfl | exact RoIn.own 2 rfl | exact RoIn.own 3 rfl | exact RoIn.own 4 rfl | exact RoIn.own 5 rfl | exact RoIn.own 6 rfl | exact RoIn.own 7 rfl | exact RoIn.own 8 rfl | exact RoIn.own 9 rfl | exact RoIn.own 10 rfl | exact RoIn.own 11 rfl | (intro p hp; simp [hp]; done))) (by exact Nat.le_of_ble_eq_true rfl) ?_
  rintro _ _ ⟨rfl, rfl⟩
  refine W.step tab_ok rfl rfl ?_
  have hm := around_range y 8 (by decide)
  generalize around y 8 = m0 at hm
  refine W.val (OpVal.add rfl rfl (i64_in _ (by omega))) (by exact Nat.le_of_ble_eq_true rfl) (W.step tab_ok rfl rfl ?_)
  obtain ⟨n, hne⟩ : ∃ n : Nat, 1 + n0 = (n : Int) := ⟨(1 + n0).toNat, by omega⟩
  obtain ⟨m, hme⟩ : ∃ m : Int, 1 + m0 = m := ⟨_, rfl⟩
  rw [hne, hme]
  have hn1 : 1 ≤ n ∧ n ≤ 16 := by omega
  have hm1 : 1 ≤ m ∧ m ≤ 8 := by omega
  refine W.nilChunk ?_
  refine W.loop (fun k ρ1 L1 => ∃ (j : Nat) (a : Option Addr) (cap : Nat) (H : HL), j ≤ n ∧ Own 1 3 (ints (List.replicate j m)) a j cap H ∧ k = n - j ∧ ρ1 = [(8, .int .i64 (j : Int)), (7, .slice a j cap), (5, .int .i64 (n : Int)), (6, .int .i64 m)] ∧ L1 = [H]) _ _ _ (by repeat (first | exact trivial | refine ⟨rfl, ?_⟩)) (by repeat (first | exact Sel.nil | (apply Sel.cons; (repeat (first | exact Pick.here | apply Pick.there))))) (⟨0, none, 0, [], Nat.zero_le _, Own.nil _ _, rfl, rfl, rfl⟩) ?_
  rintro k ρ1 L1 ⟨j, a, cap, H, hj, hown, rfl, rfl, rfl⟩
  refine W.step tab_ok rfl rfl ?_
  by_cases hlt : j < n
  · refine W.iteT rfl (by simp; omega) (W.step tab_ok rfl rfl ?_)
    refine W.slit (ps := [_]) tab_ok rfl rfl rfl rfl rfl rfl rfl (by repeat (first | exact trivial | refine ⟨⟨_, _, _, rfl, rfl, rfl⟩, ?_⟩)) rfl (by exact Nat.le_of_ble_eq_true rfl) (by exact Nat.le_of_ble_eq_true rfl) ?_
    intro bt
    refine W.step tab_ok rfl rfl ?_
    refine W.prim (app tab_ok rfl rfl rfl (hown) (by intro p hp; simp [hp]) rfl (by first | exact at_own 0 rfl | exact at_own 1 rfl | exact at_own 2 rfl | exact at_own 3 rfl | exact at_own 4 rfl | exact at_own 5 rfl | exact at_own 6 rfl | exact at_own 7 rfl | exact at_own 8 rfl | exact at_own 9 rfl | exact at_own 10 rfl | exact at_own 11 rfl | exact at_ro 0 rfl | exact at_ro 1 rfl | exact at_ro 2 rfl | exact at_ro 3 rfl | exact at_ro 4 rfl | exact at_ro 5 rfl) rfl rfl (by omega) (by omega)) (by repeat (first | exact Sel.nil | (apply Sel.cons; (repeat (first | exact Pick.here | apply Pick.there))))) (by exact Nat.le_of_ble_eq_true rfl) ?_
    rintro _ _ ⟨_, _, _, rfl, rfl, ho⟩
    refine W.step tab_ok rfl rfl ?_
    rw [← ints_rep, ← List.replicate_succ'] at ho
    refine W.val (OpVal.add rfl rfl (i64_in _ (by omega))) (by exact Nat.le_of_ble_eq_true rfl) (W.step tab_ok rfl rfl ?_)
    refine W.rnd _ _ (by repeat (first | exact trivial | refine ⟨rfl, ?_⟩)) (by repeat (first | exact Sel.nil | (apply Sel.cons; (repeat (first | exact Pick.here | apply Pick.there))))) (⟨n - (j + 1), by omega, j + 1, _, _, _, by omega, ho, rfl, rfl, rfl⟩)
  · refine W.iteF rfl (by simp; omega) (W.step tab_ok rfl rfl ?_)
    have : j = n := by omega
    subst this
    have hrl : (List.replicate j m).length = j := by simp
    have hro : RoSl 1 (ints (List.replicate j m)) a (List.replicate j m).length H := by rw [hrl]; exact hown.roSl
    have hC := Cut_spec (List.replicate j m) a cap H hro
    rw [hrl] at hC
    have hT : tot flen (made (List.replicate j m)) = j * m := by rw [tot_made (by intro n hn; simp at hn; omega), isum_rep]
    have hM : MayCut (List.replicate j m) ↔ ¬ (64 < (j : Int) * m) := by
      unfold MayCut
      rw [hT, hrl]
      constructor
      · intro h; omega
      · intro h; exact ⟨by omega, by omega, by intro n hn; simp at hn; omega, by omega⟩
    have hjm : (j : Int) * m ≤ 16 * 8 := Int.mul_le_mul (by omega) (by omega) (by omega) (by omega)
    have hjm0 : 0 ≤ (j : Int) * m := Int.mul_nonneg (by omega) (by omega)
    refine W.call rfl rfl rfl rfl (hC) (by repeat (first | exact Sel.nil | (apply Sel.cons; (repeat (first | exact Pick.here | apply Pick.there))))) (by repeat (first | exact RoIn.nil | exact RoIn.same | refine RoIn.cons (by first | exact at_own 0 rfl | exact at_own 1 rfl | exact at_own 2 rfl | exact at_own 3 rfl | exact at_own 4 rfl | exact at_own 5 rfl | exact at_own 6 rfl | exact at_own 7 rfl | exact at_own 8 rfl | exact at_own 9 rfl | exact at_own 10 rfl | exact at_own 11 rfl | exact at_ro 0 rfl | exact at_ro 1 rfl | exact at_ro 2 rfl | exact at_ro 3 rfl | exact at_ro 4 rfl | exact at_ro 5 rfl) ?_ | refine RoIn.append ?_ ?_ | exact RoIn.own 0 rfl | exact RoIn.own 1 rfl | exact RoIn.own 2 rfl | exact RoIn.own 3 rfl | exact RoIn.own 4 rfl | exact RoIn.own 5 rfl | exact RoIn.own 6 rfl | exact RoIn.own 7 rfl | exact RoIn.own 8 rfl | exact RoIn.own 9 rfl | exact RoIn.own 10 rfl | exact RoIn.own 11 rfl | (intro p hp; simp [hp]; done))) (by exact Nat.le_of_ble_eq_true rfl) ?_
    rintro _ _ (⟨hno, rfl, rfl⟩ | ⟨hyes, b, H2, rfl, rfl, ha⟩)
    · have h64 : 64 < (j : Int) * m := by rw [hM] at hno; omega
      refine W.step tab_ok rfl rfl ?_
      refine W.val (OpVal.mul rfl rfl (i64_in _ (by omega))) (by exact Nat.le_of_ble_eq_true rfl) (W.step tab_ok rfl rfl ?_)
      refine W.iteT rfl (by simp [h64]) (W.step tab_ok rfl rfl ?_)
      refine W.val (OpVal.eqNil tab_ok rfl rfl rfl) (by exact Nat.le_of_ble_eq_true rfl) (W.step tab_ok rfl rfl ?_)
      refine W.guardGo rfl rfl (by rfl) (W.step tab_ok rfl rfl ?_)
      refine W.guardGo rfl rfl (by rfl) (W.step tab_ok rfl rfl ?_)
      refine W.val (OpVal.pickT rfl (by rfl) rfl) (by exact Nat.le_of_ble_eq_true rfl) (W.step tab_ok rfl rfl ?_)
      refine W.guardGo rfl rfl (by rfl) (W.step tab_ok rfl rfl ?_)
      refine W.call rfl rfl rfl rfl (lives_spec) (by repeat (first | exact Sel.nil | (apply Sel.cons; (repeat (first | exact Pick.here | apply Pick.there))))) (by repeat (first | exact RoIn.nil | exact RoIn.same | refine RoIn.cons (by first | exact at_own 0 rfl | exact at_own 1 rfl | exact at_own 2 rfl | exact at_own 3 rfl | exact at_own 4 rfl | exact at_own 5 rfl | exact at_own 6 rfl | exact at_own 7 rfl | exact at_own 8 rfl | exact at_own 9 rfl | exact at_own 10 rfl | exact at_own 11 rfl | exact at_ro 0 rfl | exact at_ro 1 rfl | exact at_ro 2 rfl | exact at_ro 3 rfl | exact at_ro 4 rfl | exact at_ro 5 rfl) ?_ | refine RoIn.append ?_ ?_ | exact RoIn.own 0 rfl | exact RoIn.own 1 rfl | exact RoIn.own 2 rfl | exact RoIn.own 3 rfl | exact RoIn.own 4 rfl | exact RoIn.own 5 rfl | exact RoIn.own 6 rfl | exact RoIn.own 7 rfl | exact RoIn.own 8 rfl | exact RoIn.own 9 rfl | exact RoIn.own 10 rfl | exact RoIn.own 11 rfl | (intro p hp; simp [hp]; done))) (by exact Nat.le_of_ble_eq_true rfl) ?_
      rintro _ _ ⟨rfl, rfl⟩
      refine W.step tab_ok rfl rfl ?_
      refine W.val (OpVal.pickT rfl (by rfl) rfl) (by exact Nat.le_of_ble_eq_true rfl) (W.step tab_ok rfl rfl ?_)
      refine W.ret (fin _ _ (FinOk.mk' ([]) (.tmp rfl .nil) (by repeat (first | exact Sel.nil | (apply Sel.cons; (repeat (first | exact Pick.here | apply Pick.there))))) rfl ?_))
      exact ⟨rfl, rfl⟩
    · have h64 : ¬ 64 < (j : Int) * m := hM.1 hyes
      have hok := made_ok hyes.2.2.1
      have hml : (made (List.replicate j m)).length = j := by simp [made]
      have hF := Frames_spec _ hok (by omega) b H2 ha
      have hS := Start_spec _ hok (by omega) b H2 ha ((j : Int) - 1)
      have hL := ALen_spec _ b H2 ha
      rw [hT] at hF
      rw [hml] at hL
      have hst : startOf (made (List.replicate j m)) ((j : Int) - 1) = ((j : Int) - 1) * m := by
        unfold startOf
        rw [if_pos (by rw [hml]; omega), made_take, List.take_replicate, tot_made (by intro n hn; simp at hn; omega), isum_rep]
        congr 1
        omega
      rw [hst] at hS
      have hjm2 : ((j : Int) - 1) * m ≤ 16 * 8 := Int.mul_le_mul (by omega) (by omega) (by omega) (by omega)
      have hjm3 : 0 ≤ ((j : Int) - 1) * m := Int.mul_nonneg (by omega) (by omega)
      refine W.step tab_ok rfl rfl ?_
      refine W.val (OpVal.mul rfl rfl (i64_in _ (by omega))) (by exact Nat.le_of_ble_eq_true rfl) (W.step tab_ok rfl rfl ?_)
      refine W.iteF rfl (by simp [h64]) (W.step tab_ok rfl rfl ?_)
      refine W.val (OpVal.eqNil tab_ok rfl rfl rfl) (by exact Nat.le_of_ble_eq_true rfl) (W.step tab_ok rfl rfl ?_)
      refine W.guardGo rfl rfl (by rfl) (W.step tab_ok rfl rfl ?_)
      refine W.guardGo rfl rfl (by rfl) (W.step tab_ok rfl rfl ?_)
      refine W.val (OpVal.pickF rfl (by rfl) rfl) (by exact Nat.le_of_ble_eq_true rfl) (W.step tab_ok rfl rfl ?_)
      refine W.iteF rfl (by rfl) (W.step tab_ok rfl rfl ?_)
      refine W.call rfl rfl rfl rfl (hF) (by repeat (first | exact Sel.nil | (apply Sel.cons; (repeat (first | exact Pick.here | apply Pick.there))))) (by repeat (first | exact RoIn.nil | exact RoIn.same | refine RoIn.cons (by first | exact at_own 0 rfl | exact at_own 1 rfl | exact at_own 2 rfl | exact at_own 3 rfl | exact at_own 4 rfl | exact at_own 5 rfl | exact at_own 6 rfl | exact at_own 7 rfl | exact at_own 8 rfl | exact at_own 9 rfl | exact at_own 10 rfl | exact at_own 11 rfl | exact at_ro 0 rfl | exact at_ro 1 rfl | exact at_ro 2 rfl | exact at_ro 3 rfl | exact at_ro 4 rfl | exact at_ro 5 rfl) ?_ | refine RoIn.append ?_ ?_ | exact RoIn.own 0 rfl | exact RoIn.own 1 rfl | exact RoIn.own 2 rfl | exact RoIn.own 3 rfl | exact RoIn.own 4 rfl | exact RoIn.own 5 rfl | exact RoIn.own 6 rfl | exact RoIn.own 7 rfl | exact RoIn.own 8 rfl | exact RoIn.own 9 rfl | exact RoIn.own 10 rfl | exact RoIn.own 11 rfl | (intro p hp; simp [hp]; done))) (by exact Nat.le_of_ble_eq_true rfl) ?_
      rintro _ _ ⟨rfl, rfl⟩
      refine W.step tab_ok rfl rfl ?_
      refine W.val (OpVal.mul rfl rfl (i64_in _ (by omega))) (by exact Nat.le_of_ble_eq_true rfl) (W.step tab_ok rfl rfl ?_)
      repeat (refine W.guardGo rfl rfl (by simp) (W.step tab_ok rfl rfl ?_))
      refine W.val (OpVal.sub rfl rfl (i64_in _ (by omega))) (by exact Nat.le_of_ble_eq_true rfl) (W.step tab_ok rfl rfl ?_)
      repeat (refine W.guardGo rfl rfl (by simp) (W.step tab_ok rfl rfl ?_))
      refine W.call rfl rfl rfl rfl (hS) (by repeat (first | exact Sel.nil | (apply Sel.cons; (repeat (first | exact Pick.here | apply Pick.there))))) (by repeat (first | exact RoIn.nil | exact RoIn.same | refine RoIn.cons (by first | exact at_own 0 rfl | exact at_own 1 rfl | exact at_own 2 rfl | exact at_own 3 rfl | exact at_own 4 rfl | exact at_own 5 rfl | exact at_own 6 rfl | exact at_own 7 rfl | exact at_own 8 rfl | exact at_own 9 rfl | exact at_own 10 rfl | exact at_own 11 rfl | exact at_ro 0 rfl | exact at_ro 1 rfl | exact at_ro 2 rfl | exact at_ro 3 rfl | exact at_ro 4 rfl | exact at_ro 5 rfl) ?_ | refine RoIn.append ?_ ?_ | exact RoIn.own 0 rfl | exact RoIn.own 1 rfl | exact RoIn.own 2 rfl | exact RoIn.own 3 rfl | exact RoIn.own 4 rfl | exact RoIn.own 5 rfl | exact RoIn.own 6 rfl | exact RoIn.own 7 rfl | exact RoIn.own 8 rfl | exact RoIn.own 9 rfl | exact RoIn.own 10 rfl | exact RoIn.own 11 rfl | (intro p hp; simp [hp]; done))) (by exact Nat.le_of_ble_eq_true rfl) ?_
      rintro _ _ ⟨rfl, rfl⟩
      refine W.step tab_ok rfl rfl ?_
      repeat (refine W.guardGo rfl rfl (by simp) (W.step tab_ok rfl rfl ?_))
      refine W.val (OpVal.sub rfl rfl (i64_in _ (by omega))) (by exact Nat.le_of_ble_eq_true rfl) (W.step tab_ok rfl rfl ?_)
      repeat (refine W.guardGo rfl rfl (by simp) (W.step tab_ok rfl rfl ?_))
      refine W.val (OpVal.mul rfl rfl (i64_in _ (by omega))) (by exact Nat.le_of_ble_eq_true rfl) (W.step tab_ok rfl rfl ?_)
      repeat (refine W.guardGo rfl rfl (by simp) (W.step tab_ok rfl rfl ?_))
      refine W.val (OpVal.pickT rfl (by simp) rfl) (by exact Nat.le_of_ble_eq_true rfl) (W.step tab_ok rfl rfl ?_)
      repeat (refine W.guardGo rfl rfl (by simp) (W.step tab_ok rfl rfl ?_))
      refine W.call rfl rfl rfl rfl (hL) (by repeat (first | exact Sel.nil | (apply Sel.cons; (repeat (first | exact Pick.here | apply Pick.there))))) (by repeat (first | exact RoIn.nil | exact RoIn.same | refine RoIn.cons (by first | exact at_own 0 rfl | exact at_own 1 rfl | exact at_own 2 rfl | exact at_own 3 rfl | exact at_own 4 rfl | exact at_own 5 rfl | exact at_own 6 rfl | exact at_own 7 rfl | exact at_own 8 rfl | exact at_own 9 rfl | exact at_own 10 rfl | exact at_own 11 rfl | exact at_ro 0 rfl | exact at_ro 1 rfl | exact at_ro 2 rfl | exact at_ro 3 rfl | exact at_ro 4 rfl | exact at_ro 5 rfl) ?_ | refine RoIn.append ?_ ?_ | exact RoIn.own 0 rfl | exact RoIn.own 1 rfl | exact RoIn.own 2 rfl | exact RoIn.own 3 rfl | exact RoIn.own 4 rfl | exact RoIn.own 5 rfl | exact RoIn.own 6 rfl | exact RoIn.own 7 rfl | exact RoIn.own 8 rfl | exact RoIn.own 9 rfl | exact RoIn.own 10 rfl | exact RoIn.own 11 rfl | (intro p hp; simp [hp]; done))) (by exact Nat.le_of_ble_eq_true rfl) ?_
      rintro _ _ ⟨rfl, rfl⟩
      refine W.step tab_ok rfl rfl ?_
      repeat (refine W.guardGo rfl rfl (by simp) (W.step tab_ok rfl rfl ?_))
      refine W.val (OpVal.pickT rfl (by simp) rfl) (by exact Nat.le_of_ble_eq_true rfl) (W.step tab_ok rfl rfl ?_)
      repeat (refine W.guardGo rfl rfl (by simp) (W.step tab_ok rfl rfl ?_))
      refine W.call rfl rfl rfl rfl (lives_spec) (by repeat (first | exact Sel.nil | (apply Sel.cons; (repeat (first | exact Pick.here | apply Pick.there))))) (by repeat (first | exact RoIn.nil | exact RoIn.same | refine RoIn.cons (by first | exact at_own 0 rfl | exact at_own 1 rfl | exact at_own 2 rfl | exact at_own 3 rfl | exact at_own 4 rfl | exact at_own 5 rfl | exact at_own 6 rfl | exact at_own 7 rfl | exact at_own 8 rfl | exact at_own 9 rfl | exact at_own 10 rfl | exact at_own 11 rfl | exact at_ro 0 rfl | exact at_ro 1 rfl | exact at_ro 2 rfl | exact at_ro 3 rfl | exact at_ro 4 rfl | exact at_ro 5 rfl) ?_ | refine RoIn.append ?_ ?_ | exact RoIn.own 0 rfl | exact RoIn.own 1 rfl | exact RoIn.own 2 rfl | exact RoIn.own 3 rfl | exact RoIn.own 4 rfl | exact RoIn.own 5 rfl | exact RoIn.own 6 rfl | exact RoIn.own 7 rfl | exact RoIn.own 8 rfl | exact RoIn.own 9 rfl | exact RoIn.own 10 rfl | exact RoIn.own 11 rfl | (intro p hp; simp [hp]; done))) (by exact Nat.le_of_ble_eq_true rfl) ?_
      rintro _ _ ⟨rfl, rfl⟩
      refine W.step tab_ok rfl rfl ?_
      refine W.val (OpVal.pickT rfl (by simp) rfl) (by exact Nat.le_of_ble_eq_true rfl) (W.step tab_ok rfl rfl ?_)
      refine W.ret (fin _ _ (FinOk.mk' ([]) (.tmp rfl .nil) (by repeat (first | exact Sel.nil | (apply Sel.cons; (repeat (first | exact Pick.here | apply Pick.there))))) rfl ?_))
      exact ⟨rfl, rfl⟩
end Go.Proofs.Ytdhjmeoppmpilaa
