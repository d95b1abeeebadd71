/-
  Release, Clean, Clear, Hand, Dirty of a partition.
-/
import Derived.Test.YtdhjmeoppmpilaaPg
namespace Go.Proofs.Ytdhjmeoppmpilaa
open Go Go.Sl Go.IntWalk
set_option maxHeartbeats 2000000
set_option maxRecDepth 20000
def inFr (p : Pt) (i : Int) : Prop := 0 ≤ i ∧ i < p.fs.length
instance (p : Pt) (i : Int) : Decidable (inFr p i) := by unfold inFr; infer_instance
def Pt.release (p : Pt) (i : Int) : Pt × Int := if ¬ inFr p i then (p, 1) else if (p.at_ i).pins = 0 then (⟨p.fs.set i.toNat Fr.zero, (p.forget i.toNat).tbl, p.hand⟩, 0) else (p, 5)
def Fr.clean (f : Fr) : Fr := ⟨f.used, false, f.ref, f.pins, f.page, f.b⟩
def Pt.clean (p : Pt) (i : Int) : Pt × Int := if ¬ inFr p i then (p, 1) else (p.setF i.toNat (p.at_ i).clean, 0)
def Pt.clear (p : Pt) : Pt := Pt.new p.fs.length
def dirtyFrom (fs : List Fr) (j : Nat) : List Int := match fs with
  | [] => []
  | f :: fs => if f.dirty = true then (j : Int) :: dirtyFrom fs (j + 1) else dirtyFrom fs (j + 1)
def Pt.dirty (p : Pt) : List Int := dirtyFrom p.fs 0
theorem dirtyFrom_snoc (f : Fr) : ∀ (fs : List Fr) (j : Nat), dirtyFrom (fs ++ [f]) j = dirtyFrom fs j ++ (if f.dirty = true then [((j + fs.length : Nat) : Int)] else [])
  | [], j => by simp [dirtyFrom]
  | g :: fs, j => by
    have ih := dirtyFrom_snoc f fs (j + 1)
    have e : j + 1 + fs.length = j + (fs.length + 1) := by omega
    simp only [List.cons_append, dirtyFrom, ih, List.length_cons, e]
    split <;> simp
theorem dirtyFrom_len : ∀ (fs : List Fr) (j : Nat), (dirtyFrom fs j).length ≤ fs.length
  | [], _ => by simp [dirtyFrom]
  | f :: fs, j => by
    have := dirtyFrom_len fs (j + 1)
    unfold dirtyFrom
    split <;> simp <;> omega
theorem Hand_spec (p : Pt) (b : Nat) (H : HL) (hp : PtAt p b H) : Ctr Try.prog 36 [.pointer (some ⟨b, 0, none⟩)] [] H (fun v L' => v = .int .i64 p.hand ∧ L' = []) := by
  obtain ⟨bf, bm, es, clock, rfl, hm⟩ := hp
  refine Ctr.enter (n := 7) [.tmp 2] [(0, _)] Try.func36 rfl rfl rfl (Nat.le_of_ble_eq_true rfl) Try.call36 ⟨rfl, trivial⟩ ?_
  intro cx fin fin0
  refine W.step tab_ok rfl rfl ?_
  repeat (first | (refine W.isLoad ?_; refine W.val (OpVal.load tab_ok rfl (by first | exact at_own 0 rfl | exact at_own 1 rfl | exact at_own 2 rfl | exact at_own 3 rfl | exact at_own 4 rfl | exact at_own 5 rfl | exact at_own 6 rfl | exact at_own 7 rfl | exact at_own 8 rfl | exact at_own 9 rfl | exact at_own 10 rfl | exact at_own 11 rfl | exact at_ro 0 rfl | exact at_ro 1 rfl | exact at_ro 2 rfl | exact at_ro 3 rfl) (by rfl)) (by exact Nat.le_of_ble_eq_true rfl) ?_; refine W.step tab_ok rfl rfl ?_) | (refine W.isStore ?_; refine W.store tab_ok rfl (by first | exact Upd.here | exact (Upd.there Upd.here) | exact (Upd.there (Upd.there Upd.here)) | exact (Upd.there (Upd.there (Upd.there Upd.here))) | exact (Upd.there (Upd.there (Upd.there (Upd.there Upd.here)))) | exact (Upd.there (Upd.there (Upd.there (Upd.there (Upd.there Upd.here))))) | exact (Upd.there (Upd.there (Upd.there (Upd.there (Upd.there (Upd.there Upd.here)))))) | exact (Upd.there (Upd.there (Upd.there (Upd.there (Upd.there (Upd.there (Upd.there Upd.here))))))) | exact (Upd.there (Upd.there (Upd.there (Upd.there (Upd.there (Upd.there (Upd.there (Upd.there Upd.here)))))))) | exact (Upd.there (Upd.there (Upd.there (Upd.there (Upd.there (Upd.there (Upd.there (Upd.there (Upd.there Upd.here))))))))) | exact (Upd.there (Upd.there (Upd.there (Upd.there (Upd.there (Upd.there (Upd.there (Upd.there (Upd.there (Upd.there Upd.here)))))))))) | exact (Upd.there (Upd.there (Upd.there (Upd.there (Upd.there (Upd.there (Upd.there (Upd.there (Upd.there (Upd.there (Upd.there Upd.here)))))))))))) rfl rfl rfl rfl rfl (by rfl) ?_; refine W.step tab_ok rfl rfl ?_) | (refine W.isNew ?_; refine W.new tab_ok rfl rfl (by exact Nat.le_of_ble_eq_true rfl) ?_; intro _; refine W.step tab_ok rfl rfl ?_) | (refine W.isBox ?_; refine W.box rfl rfl (by exact Nat.le_of_ble_eq_true rfl) ?_; intro _; refine W.step tab_ok rfl rfl ?_))
  refine W.ret (fin _ _ (FinOk.mk' ([]) (.tmp rfl .nil) (by repeat (first | exact Sel.nil | (apply Sel.cons; (repeat (first | exact Pick.here | apply Pick.there))))) rfl ?_))
  exact ⟨rfl, rfl⟩
theorem Release_spec (p : Pt) (hpo : p.Ok) (b : Nat) (H : HL) (hp : PtAt p b H) (i : Int) : Ctr Try.prog 43 [.pointer (some ⟨b, 0, none⟩), .int .i64 i] [H] []
    (fun v L' => v = .int .i64 (p.release i).2 ∧ ∃ H', L' = [H'] ∧ PtAt (p.release i).1 b H') := by
  have hI := pin_spec p b H hp i
  by_cases hin : inFr p i
  · obtain ⟨j, rfl⟩ : ∃ j : Nat, i = (j : Int) := ⟨i.toNat, by unfold inFr at hin; omega⟩
    have hj : j < p.fs.length := by unfold inFr at hin; omega
    have hin' : (0 ≤ (j : Int) ∧ (j : Int) < p.fs.length) := hin
    have hforget := forget_spec p hpo b H hp j hj
    have hsp := flat_split hj
    have hset := flat_set hj Fr.zero
    have hfo := hpo.1 _ (List.getElem_mem hj)
    have hat := Pt.at_nat hj
    have hA : (flat (p.fs.take j)).length = 0 + j * 37 := by rw [take_flat_len hpo.1 (Nat.le_of_lt hj)]; omega
    have hr : p.release (j : Int) = if p.fs[j].pins = 0 then (⟨p.fs.set j Fr.zero, (p.forget j).tbl, p.hand⟩, 0) else (p, 5) := by
      unfold Pt.release
      rw [if_neg (fun h => h hin), hat, Int.toNat_natCast]
    generalize p.fs[j] = f at hsp hfo hr
    have hz := Zero_spec f hfo (flat (p.fs.take j)) (flat (p.fs.drop (j + 1)))
    have hfr := FFree_spec f (flat (p.fs.take j)) (flat (p.fs.drop (j + 1)))
    refine Ctr.enter (n := 30) [.tmp 4] [(0, _), (1, _)] Try.func43 rfl rfl rfl (Nat.le_of_ble_eq_true rfl) Try.call43 ⟨rfl, rfl, trivial⟩ ?_
    intro cx fin fin0
    refine W.step tab_ok rfl rfl ?_
    refine W.call rfl rfl rfl rfl (hI) (by repeat (first | exact Sel.nil | (apply Sel.cons; (repeat (first | exact Pick.here | apply Pick.there))))) (by repeat (first | exact RoIn.nil | exact RoIn.same | refine RoIn.cons (by first | exact at_own 0 rfl | exact at_own 1 rfl | exact at_own 2 rfl | exact at_own 3 rfl | exact at_own 4 rfl | exact at_own 5 rfl | exact at_own 6 rfl | exact at_own 7 rfl | exact at_own 8 rfl | exact at_own 9 rfl | exact at_own 10 rfl | exact at_own 11 rfl | exact at_ro 0 rfl | exact at_ro 1 rfl | exact at_ro 2 rfl | exact at_ro 3 rfl | exact at_ro 4 rfl | exact at_ro 5 rfl) ?_ | refine RoIn.append ?_ ?_ | exact RoIn.own 0 rfl | exact RoIn.own 1 rfl | exact RoIn.own 2 rfl | exact RoIn.own 3 rfl | exact RoIn.own 4 rfl | exact RoIn.own 5 rfl | exact RoIn.own 6 rfl | exact RoIn.own 7 rfl | exact RoIn.own 8 rfl | exact RoIn.own 9 rfl | exact RoIn.own 10 rfl | exact RoIn.own 11 rfl | (intro p hp; simp [hp]; done))) (by exact Nat.le_of_ble_eq_true rfl) ?_
    rintro _ _ ⟨rfl, rfl⟩
    refine W.step tab_ok rfl rfl ?_
    refine W.iteF rfl (by simp [hin']) (W.step tab_ok rfl rfl ?_)
    obtain ⟨bf, bm, es, clock, rfl, hm⟩ := hp
    refine W.split 0 rfl ?_
    refine W.step tab_ok rfl rfl ?_
    repeat (first | (refine W.isLoad ?_; refine W.val (OpVal.load tab_ok rfl (by first | exact at_own 0 rfl | exact at_own 1 rfl | exact at_own 2 rfl | exact at_own 3 rfl | exact at_own 4 rfl | exact at_own 5 rfl | exact at_own 6 rfl | exact at_own 7 rfl | exact at_own 8 rfl | exact at_own 9 rfl | exact at_own 10 rfl | exact at_own 11 rfl | exact at_ro 0 rfl | exact at_ro 1 rfl | exact at_ro 2 rfl | exact at_ro 3 rfl) (by rfl)) (by exact Nat.le_of_ble_eq_true rfl) ?_; refine W.step tab_ok rfl rfl ?_) | (refine W.isStore ?_; refine W.store tab_ok rfl (by first | exact Upd.here | exact (Upd.there Upd.here) | exact (Upd.there (Upd.there Upd.here)) | exact (Upd.there (Upd.there (Upd.there Upd.here))) | exact (Upd.there (Upd.there (Upd.there (Upd.there Upd.here)))) | exact (Upd.there (Upd.there (Upd.there (Upd.there (Upd.there Upd.here))))) | exact (Upd.there (Upd.there (Upd.there (Upd.there (Upd.there (Upd.there Upd.here)))))) | exact (Upd.there (Upd.there (Upd.there (Upd.there (Upd.there (Upd.there (Upd.there Upd.here))))))) | exact (Upd.there (Upd.there (Upd.there (Upd.there (Upd.there (Upd.there (Upd.there (Upd.there Upd.here)))))))) | exact (Upd.there (Upd.there (Upd.there (Upd.there (Upd.there (Upd.there (Upd.there (Upd.there (Upd.there Upd.here))))))))) | exact (Upd.there (Upd.there (Upd.there (Upd.there (Upd.there (Upd.there (Upd.there (Upd.there (Upd.there (Upd.there Upd.here)))))))))) | exact (Upd.there (Upd.there (Upd.there (Upd.there (Upd.there (Upd.there (Upd.there (Upd.there (Upd.there (Upd.there (Upd.there Upd.here)))))))))))) rfl rfl rfl rfl rfl (by rfl) ?_; refine W.step tab_ok rfl rfl ?_) | (refine W.isNew ?_; refine W.new tab_ok rfl rfl (by exact Nat.le_of_ble_eq_true rfl) ?_; intro _; refine W.step tab_ok rfl rfl ?_) | (refine W.isBox ?_; refine W.box rfl rfl (by exact Nat.le_of_ble_eq_true rfl) ?_; intro _; refine W.step tab_ok rfl rfl ?_))
    refine W.val (OpVal.ixSl tab_ok rfl rfl rfl rfl rfl hj) (by exact Nat.le_of_ble_eq_true rfl) (W.step tab_ok rfl rfl ?_)
    rw [hsp]
    refine W.call rfl rfl rfl rfl (hfr bf _ 51 hA) (by repeat (first | exact Sel.nil | (apply Sel.cons; (repeat (first | exact Pick.here | apply Pick.there))))) (by exact RoIn.own 1 rfl) (by exact Nat.le_of_ble_eq_true rfl) ?_
    rintro _ _ ⟨rfl, rfl⟩
    refine W.step tab_ok rfl rfl ?_
    rw [← hsp]
    by_cases h0 : f.pins = 0
    · rw [if_pos h0] at hr
      refine W.iteF rfl (by first | rfl | (simp [h0]; done) | omega) (W.step tab_ok rfl rfl ?_)
      refine W.group [0, 0, 0] rfl rfl ?_
      refine W.step tab_ok rfl rfl ?_
      refine W.call rfl rfl rfl rfl (hforget) (by repeat (first | exact Sel.nil | (apply Sel.cons; (repeat (first | exact Pick.here | apply Pick.there))))) (by repeat (first | exact RoIn.nil | exact RoIn.same | refine RoIn.cons (by first | exact at_own 0 rfl | exact at_own 1 rfl | exact at_own 2 rfl | exact at_own 3 rfl | exact at_own 4 rfl | exact at_own 5 rfl | exact at_own 6 rfl | exact at_own 7 rfl | exact at_own 8 rfl | exact at_own 9 rfl | exact at_own 10 rfl | exact at_own 11 rfl | exact at_ro 0 rfl | exact at_ro 1 rfl | exact at_ro 2 rfl | exact at_ro 3 rfl | exact at_ro 4 rfl | exact at_ro 5 rfl) ?_ | refine RoIn.append ?_ ?_ | exact RoIn.own 0 rfl | exact RoIn.own 1 rfl | exact RoIn.own 2 rfl | exact RoIn.own 3 rfl | exact RoIn.own 4 rfl | exact RoIn.own 5 rfl | exact RoIn.own 6 rfl | exact RoIn.own 7 rfl | exact RoIn.own 8 rfl | exact RoIn.own 9 rfl | exact RoIn.own 10 rfl | exact RoIn.own 11 rfl | (intro p hp; simp [hp]; done))) (by exact Nat.le_of_ble_eq_true rfl) ?_
      rintro _ _ ⟨H2, rfl, hp2⟩
      refine W.step tab_ok rfl rfl ?_
      have hp3 : PtAtF p.fs (p.forget j).tbl p.hand b H2 := hp2
      obtain ⟨bf2, bm2, es2, clock2, rfl, hm2⟩ := hp3
      refine W.split 0 rfl ?_
      refine W.step tab_ok rfl rfl ?_
      repeat (first | (refine W.isLoad ?_; refine W.val (OpVal.load tab_ok rfl (by first | exact at_own 0 rfl | exact at_own 1 rfl | exact at_own 2 rfl | exact at_own 3 rfl | exact at_own 4 rfl | exact at_own 5 rfl | exact at_own 6 rfl | exact at_own 7 rfl | exact at_own 8 rfl | exact at_own 9 rfl | exact at_own 10 rfl | exact at_own 11 rfl | exact at_ro 0 rfl | exact at_ro 1 rfl | exact at_ro 2 rfl | exact at_ro 3 rfl) (by rfl)) (by exact Nat.le_of_ble_eq_true rfl) ?_; refine W.step tab_ok rfl rfl ?_) | (refine W.isStore ?_; refine W.store tab_ok rfl (by first | exact Upd.here | exact (Upd.there Upd.here) | exact (Upd.there (Upd.there Upd.here)) | exact (Upd.there (Upd.there (Upd.there Upd.here))) | exact (Upd.there (Upd.there (Upd.there (Upd.there Upd.here)))) | exact (Upd.there (Upd.there (Upd.there (Upd.there (Upd.there Upd.here))))) | exact (Upd.there (Upd.there (Upd.there (Upd.there (Upd.there (Upd.there Upd.here)))))) | exact (Upd.there (Upd.there (Upd.there (Upd.there (Upd.there (Upd.there (Upd.there Upd.here))))))) | exact (Upd.there (Upd.there (Upd.there (Upd.there (Upd.there (Upd.there (Upd.there (Upd.there Upd.here)))))))) | exact (Upd.there (Upd.there (Upd.there (Upd.there (Upd.there (Upd.there (Upd.there (Upd.there (Upd.there Upd.here))))))))) | exact (Upd.there (Upd.there (Upd.there (Upd.there (Upd.there (Upd.there (Upd.there (Upd.there (Upd.there (Upd.there Upd.here)))))))))) | exact (Upd.there (Upd.there (Upd.there (Upd.there (Upd.there (Upd.there (Upd.there (Upd.there (Upd.there (Upd.there (Upd.there Upd.here)))))))))))) rfl rfl rfl rfl rfl (by rfl) ?_; refine W.step tab_ok rfl rfl ?_) | (refine W.isNew ?_; refine W.new tab_ok rfl rfl (by exact Nat.le_of_ble_eq_true rfl) ?_; intro _; refine W.step tab_ok rfl rfl ?_) | (refine W.isBox ?_; refine W.box rfl rfl (by exact Nat.le_of_ble_eq_true rfl) ?_; intro _; refine W.step tab_ok rfl rfl ?_))
      refine W.val (OpVal.ixSl tab_ok rfl rfl rfl rfl rfl hj) (by exact Nat.le_of_ble_eq_true rfl) (W.step tab_ok rfl rfl ?_)
      rw [hsp]
      refine W.call rfl rfl rfl rfl (hz bf2 _ 51 hA) (by repeat (first | exact Sel.nil | (apply Sel.cons; (repeat (first | exact Pick.here | apply Pick.there))))) (by repeat (first | exact RoIn.nil | exact RoIn.same | refine RoIn.cons (by first | exact at_own 0 rfl | exact at_own 1 rfl | exact at_own 2 rfl | exact at_own 3 rfl | exact at_own 4 rfl | exact at_own 5 rfl | exact at_own 6 rfl | exact at_own 7 rfl | exact at_own 8 rfl | exact at_own 9 rfl | exact at_own 10 rfl | exact at_own 11 rfl | exact at_ro 0 rfl | exact at_ro 1 rfl | exact at_ro 2 rfl | exact at_ro 3 rfl | exact at_ro 4 rfl | exact at_ro 5 rfl) ?_ | refine RoIn.append ?_ ?_ | exact RoIn.own 0 rfl | exact RoIn.own 1 rfl | exact RoIn.own 2 rfl | exact RoIn.own 3 rfl | exact RoIn.own 4 rfl | exact RoIn.own 5 rfl | exact RoIn.own 6 rfl | exact RoIn.own 7 rfl | exact RoIn.own 8 rfl | exact RoIn.own 9 rfl | exact RoIn.own 10 rfl | exact RoIn.own 11 rfl | (intro p hp; simp [hp]; done))) (by exact Nat.le_of_ble_eq_true rfl) ?_
      rintro _ _ rfl
      refine W.step tab_ok rfl rfl ?_
      rw [← hset]
      refine W.group [1, 0, 0] rfl rfl ?_
      refine W.ret (fin _ _ (FinOk.first 1 (.tmp rfl .nil) rfl ?_))
      rw [hr]
      refine ⟨rfl, _, rfl, bf2, bm2, es2, clock2, ?_, hm2⟩
      simp
    · rw [if_neg h0] at hr
      refine W.iteT rfl (by first | rfl | (simp [h0]; done) | omega) (W.step tab_ok rfl rfl ?_)
      refine W.group [0, 0, 0] rfl rfl ?_
      refine W.step tab_ok rfl rfl ?_
      refine W.ret (fin _ _ (FinOk.first 1 (.tmp rfl .nil) rfl ?_))
      rw [hr]
      exact ⟨rfl, _, rfl, bf, bm, es, clock, rfl, hm⟩
  · have hin' : ¬ (0 ≤ i ∧ i < p.fs.length) := hin
    refine Ctr.enter (n := 30) [.tmp 4] [(0, _), (1, _)] Try.func43 rfl rfl rfl (Nat.le_of_ble_eq_true rfl) Try.call43 ⟨rfl, rfl, trivial⟩ ?_
    intro cx fin fin0
    refine W.step tab_ok rfl rfl ?_
    refine W.call rfl rfl rfl rfl (hI) (by repeat (first | exact Sel.nil | (apply Sel.cons; (repeat (first | exact Pick.here | apply Pick.there))))) (by repeat (first | exact RoIn.nil | exact RoIn.same | refine RoIn.cons (by first | exact at_own 0 rfl | exact at_own 1 rfl | exact at_own 2 rfl | exact at_own 3 rfl | exact at_own 4 rfl | exact at_own 5 rfl | exact at_own 6 rfl | exact at_own 7 rfl | exact at_own 8 rfl | exact at_own 9 rfl | exact at_own 10 rfl | exact at_own 11 rfl | exact at_ro 0 rfl | exact at_ro 1 rfl | exact at_ro 2 rfl | exact at_ro 3 rfl | exact at_ro 4 rfl | exact at_ro 5 rfl) ?_ | refine RoIn.append ?_ ?_ | exact RoIn.own 0 rfl | exact RoIn.own 1 rfl | exact RoIn.own 2 rfl | exact RoIn.own 3 rfl | exact RoIn.own 4 rfl | exact RoIn.own 5 rfl | exact RoIn.own 6 rfl | exact RoIn.own 7 rfl | exact RoIn.own 8 rfl | exact RoIn.own 9 rfl | exact RoIn.own 10 rfl | exact RoIn.own 11 rfl | (intro p hp; simp [hp]; done))) (by exact Nat.le_of_ble_eq_true rfl) ?_
    rintro _ _ ⟨rfl, rfl⟩
    refine W.step tab_ok rfl rfl ?_
    refine W.iteT rfl (by simp [hin']) (W.step tab_ok rfl rfl ?_)
    refine W.ret (fin _ _ (FinOk.first 1 (.tmp rfl .nil) rfl ?_))
    have : p.release i = (p, 1) := by unfold Pt.release; rw [if_pos hin]
    rw [this]
    exact ⟨rfl, _, rfl, hp⟩
theorem Clean_spec (p : Pt) (hpo : p.Ok) (b : Nat) (H : HL) (hp : PtAt p b H) (i : Int) : Ctr Try.prog 76 [.pointer (some ⟨b, 0, none⟩), .int .i64 i] [H] []
    (fun v L' => v = .int .i64 (p.clean i).2 ∧ ∃ H', L' = [H'] ∧ PtAt (p.clean i).1 b H') := by
  have hI := pin_spec p b H hp i
  by_cases hin : inFr p i
  · obtain ⟨j, rfl⟩ : ∃ j : Nat, i = (j : Int) := ⟨i.toNat, by unfold inFr at hin; omega⟩
    have hj : j < p.fs.length := by unfold inFr at hin; omega
    have hin' : (0 ≤ (j : Int) ∧ (j : Int) < p.fs.length) := hin
    have hsp := flat_split hj
    have hset := flat_set hj p.fs[j].clean
    have hat := Pt.at_nat hj
    have hA : (flat (p.fs.take j)).length = 0 + j * 37 := by rw [take_flat_len hpo.1 (Nat.le_of_lt hj)]; omega
    have hr : p.clean (j : Int) = (p.setF j p.fs[j].clean, 0) := by
      unfold Pt.clean
      rw [if_neg (fun h => h hin), hat, Int.toNat_natCast]
    generalize p.fs[j] = f at hsp hset hr
    have hw : splice? (flat p.fs) (0 + j * 37 + 1) [.bool false] = some (flat (p.fs.set j f.clean)) := by rw [hsp, hset]; exact splice_mid hA (M := f.l) (o := 1) rfl
    refine Ctr.enter (n := 17) [.tmp 4] [(0, _), (1, _)] Try.func76 rfl rfl rfl (Nat.le_of_ble_eq_true rfl) Try.call76 ⟨rfl, rfl, trivial⟩ ?_
    intro cx fin fin0
    refine W.step tab_ok rfl rfl ?_
    refine W.call rfl rfl rfl rfl (hI) (by repeat (first | exact Sel.nil | (apply Sel.cons; (repeat (first | exact Pick.here | apply Pick.there))))) (by repeat (first | exact RoIn.nil | exact RoIn.same | refine RoIn.cons (by first | exact at_own 0 rfl | exact at_own 1 rfl | exact at_own 2 rfl | exact at_own 3 rfl | exact at_own 4 rfl | exact at_own 5 rfl | exact at_own 6 rfl | exact at_own 7 rfl | exact at_own 8 rfl | exact at_own 9 rfl | exact at_own 10 rfl | exact at_own 11 rfl | exact at_ro 0 rfl | exact at_ro 1 rfl | exact at_ro 2 rfl | exact at_ro 3 rfl | exact at_ro 4 rfl | exact at_ro 5 rfl) ?_ | refine RoIn.append ?_ ?_ | exact RoIn.own 0 rfl | exact RoIn.own 1 rfl | exact RoIn.own 2 rfl | exact RoIn.own 3 rfl | exact RoIn.own 4 rfl | exact RoIn.own 5 rfl | exact RoIn.own 6 rfl | exact RoIn.own 7 rfl | exact RoIn.own 8 rfl | exact RoIn.own 9 rfl | exact RoIn.own 10 rfl | exact RoIn.own 11 rfl | (intro p hp; simp [hp]; done))) (by exact Nat.le_of_ble_eq_true rfl) ?_
    rintro _ _ ⟨rfl, rfl⟩
    refine W.step tab_ok rfl rfl ?_
    refine W.iteF rfl (by simp [hin']) (W.step tab_ok rfl rfl ?_)
    obtain ⟨bf, bm, es, clock, rfl, hm⟩ := hp
    refine W.split 0 rfl ?_
    refine W.step tab_ok rfl rfl ?_
    repeat (first | (refine W.isLoad ?_; refine W.val (OpVal.load tab_ok rfl (by first | exact at_own 0 rfl | exact at_own 1 rfl | exact at_own 2 rfl | exact at_own 3 rfl | exact at_own 4 rfl | exact at_own 5 rfl | exact at_own 6 rfl | exact at_own 7 rfl | exact at_own 8 rfl | exact at_own 9 rfl | exact at_own 10 rfl | exact at_own 11 rfl | exact at_ro 0 rfl | exact at_ro 1 rfl | exact at_ro 2 rfl | exact at_ro 3 rfl) (by rfl)) (by exact Nat.le_of_ble_eq_true rfl) ?_; refine W.step tab_ok rfl rfl ?_) | (refine W.isStore ?_; refine W.store tab_ok rfl (by first | exact Upd.here | exact (Upd.there Upd.here) | exact (Upd.there (Upd.there Upd.here)) | exact (Upd.there (Upd.there (Upd.there Upd.here))) | exact (Upd.there (Upd.there (Upd.there (Upd.there Upd.here)))) | exact (Upd.there (Upd.there (Upd.there (Upd.there (Upd.there Upd.here))))) | exact (Upd.there (Upd.there (Upd.there (Upd.there (Upd.there (Upd.there Upd.here)))))) | exact (Upd.there (Upd.there (Upd.there (Upd.there (Upd.there (Upd.there (Upd.there Upd.here))))))) | exact (Upd.there (Upd.there (Upd.there (Upd.there (Upd.there (Upd.there (Upd.there (Upd.there Upd.here)))))))) | exact (Upd.there (Upd.there (Upd.there (Upd.there (Upd.there (Upd.there (Upd.there (Upd.there (Upd.there Upd.here))))))))) | exact (Upd.there (Upd.there (Upd.there (Upd.there (Upd.there (Upd.there (Upd.there (Upd.there (Upd.there (Upd.there Upd.here)))))))))) | exact (Upd.there (Upd.there (Upd.there (Upd.there (Upd.there (Upd.there (Upd.there (Upd.there (Upd.there (Upd.there (Upd.there Upd.here)))))))))))) rfl rfl rfl rfl rfl (by rfl) ?_; refine W.step tab_ok rfl rfl ?_) | (refine W.isNew ?_; refine W.new tab_ok rfl rfl (by exact Nat.le_of_ble_eq_true rfl) ?_; intro _; refine W.step tab_ok rfl rfl ?_) | (refine W.isBox ?_; refine W.box rfl rfl (by exact Nat.le_of_ble_eq_true rfl) ?_; intro _; refine W.step tab_ok rfl rfl ?_))
    refine W.val (OpVal.ixSl tab_ok rfl rfl rfl rfl rfl hj) (by exact Nat.le_of_ble_eq_true rfl) (W.step tab_ok rfl rfl ?_)
    refine W.store tab_ok rfl (Upd.there Upd.here) rfl rfl rfl rfl rfl hw (W.step tab_ok rfl rfl ?_)
    refine W.group [0, 0, 0] rfl rfl ?_
    refine W.ret (fin _ _ (FinOk.first 1 (.tmp rfl .nil) rfl ?_))
    rw [hr]
    refine ⟨rfl, _, rfl, bf, bm, es, clock, ?_, hm⟩
    simp [Pt.setF]
  · have hin' : ¬ (0 ≤ i ∧ i < p.fs.length) := hin
    refine Ctr.enter (n := 17) [.tmp 4] [(0, _), (1, _)] Try.func76 rfl rfl rfl (Nat.le_of_ble_eq_true rfl) Try.call76 ⟨rfl, rfl, trivial⟩ ?_
    intro cx fin fin0
    refine W.step tab_ok rfl rfl ?_
    refine W.call rfl rfl rfl rfl (hI) (by repeat (first | exact Sel.nil | (apply Sel.cons; (repeat (first | exact Pick.here | apply Pick.there))))) (by repeat (first | exact RoIn.nil | exact RoIn.same | refine RoIn.cons (by first | exact at_own 0 rfl | exact at_own 1 rfl | exact at_own 2 rfl | exact at_own 3 rfl | exact at_own 4 rfl | exact at_own 5 rfl | exact at_own 6 rfl | exact at_own 7 rfl | exact at_own 8 rfl | exact at_own 9 rfl | exact at_own 10 rfl | exact at_own 11 rfl | exact at_ro 0 rfl | exact at_ro 1 rfl | exact at_ro 2 rfl | exact at_ro 3 rfl | exact at_ro 4 rfl | exact at_ro 5 rfl) ?_ | refine RoIn.append ?_ ?_ | exact RoIn.own 0 rfl | exact RoIn.own 1 rfl | exact RoIn.own 2 rfl | exact RoIn.own 3 rfl | exact RoIn.own 4 rfl | exact RoIn.own 5 rfl | exact RoIn.own 6 rfl | exact RoIn.own 7 rfl | exact RoIn.own 8 rfl | exact RoIn.own 9 rfl | exact RoIn.own 10 rfl | exact RoIn.own 11 rfl | (intro p hp; simp [hp]; done))) (by exact Nat.le_of_ble_eq_true rfl) ?_
    rintro _ _ ⟨rfl, rfl⟩
    refine W.step tab_ok rfl rfl ?_
    refine W.iteT rfl (by simp [hin']) (W.step tab_ok rfl rfl ?_)
    refine W.ret (fin _ _ (FinOk.first 1 (.tmp rfl .nil) rfl ?_))
    have : p.clean i = (p, 1) := by unfold Pt.clean; rw [if_pos hin]
    rw [this]
    exact ⟨rfl, _, rfl, hp⟩
theorem flat_one (fs : List Fr) : allOne (flat fs) = true := by
  refine allOne_of fun v hv => ?_
  obtain ⟨f, _, hf⟩ := List.mem_flatMap.1 hv
  exact allOne_mem f.l_one v hf
theorem Clear_spec (p : Pt) (hpo : p.Ok) (b : Nat) (H : HL) (hp : PtAt p b H) : Ctr Try.prog 50 [.pointer (some ⟨b, 0, none⟩)] [H] []
    (fun _ L' => ∃ H', L' = [H'] ∧ PtAt p.clear b H') := by
  obtain ⟨bf, bm, es, clock, rfl, hm⟩ := hp
  have hl := flat_len hpo.1
  have h1 := hpo.2.1
  have hz := rep_flat p.fs.length
  refine Ctr.enter (n := 13) [] [(0, _)] Try.func50 rfl rfl rfl (Nat.le_of_ble_eq_true rfl) Try.call50 ⟨rfl, trivial⟩ ?_
  intro cx fin fin0
  refine W.step tab_ok rfl rfl ?_
  refine W.split 0 rfl ?_
  refine W.step tab_ok rfl rfl ?_
  repeat (first | (refine W.isLoad ?_; refine W.val (OpVal.load tab_ok rfl (by first | exact at_own 0 rfl | exact at_own 1 rfl | exact at_own 2 rfl | exact at_own 3 rfl | exact at_own 4 rfl | exact at_own 5 rfl | exact at_own 6 rfl | exact at_own 7 rfl | exact at_own 8 rfl | exact at_own 9 rfl | exact at_own 10 rfl | exact at_own 11 rfl | exact at_ro 0 rfl | exact at_ro 1 rfl | exact at_ro 2 rfl | exact at_ro 3 rfl) (by rfl)) (by exact Nat.le_of_ble_eq_true rfl) ?_; refine W.step tab_ok rfl rfl ?_) | (refine W.isStore ?_; refine W.store tab_ok rfl (by first | exact Upd.here | exact (Upd.there Upd.here) | exact (Upd.there (Upd.there Upd.here)) | exact (Upd.there (Upd.there (Upd.there Upd.here))) | exact (Upd.there (Upd.there (Upd.there (Upd.there Upd.here)))) | exact (Upd.there (Upd.there (Upd.there (Upd.there (Upd.there Upd.here))))) | exact (Upd.there (Upd.there (Upd.there (Upd.there (Upd.there (Upd.there Upd.here)))))) | exact (Upd.there (Upd.there (Upd.there (Upd.there (Upd.there (Upd.there (Upd.there Upd.here))))))) | exact (Upd.there (Upd.there (Upd.there (Upd.there (Upd.there (Upd.there (Upd.there (Upd.there Upd.here)))))))) | exact (Upd.there (Upd.there (Upd.there (Upd.there (Upd.there (Upd.there (Upd.there (Upd.there (Upd.there Upd.here))))))))) | exact (Upd.there (Upd.there (Upd.there (Upd.there (Upd.there (Upd.there (Upd.there (Upd.there (Upd.there (Upd.there Upd.here)))))))))) | exact (Upd.there (Upd.there (Upd.there (Upd.there (Upd.there (Upd.there (Upd.there (Upd.there (Upd.there (Upd.there (Upd.there Upd.here)))))))))))) rfl rfl rfl rfl rfl (by rfl) ?_; refine W.step tab_ok rfl rfl ?_) | (refine W.isNew ?_; refine W.new tab_ok rfl rfl (by exact Nat.le_of_ble_eq_true rfl) ?_; intro _; refine W.step tab_ok rfl rfl ?_) | (refine W.isBox ?_; refine W.box rfl rfl (by exact Nat.le_of_ble_eq_true rfl) ?_; intro _; refine W.step tab_ok rfl rfl ?_))
  refine W.primU (clearSl (b := bf) (m := 37) (ex := 51) (l := flat p.fs) (zs := Fr.zero.l) (z := Fr.zero.v) tab_ok rfl rfl rfl rfl (by decide) rfl (by simp) (by rw [hz]; exact flat_one _) (by omega) (by omega)) (by repeat (first | exact Sel.nil | (apply Sel.cons; (repeat (first | exact Pick.here | apply Pick.there))))) ?_
  rintro _ _ rfl
  refine W.step tab_ok rfl rfl ?_
  rw [hz]
  repeat (first | (refine W.isLoad ?_; refine W.val (OpVal.load tab_ok rfl (by first | exact at_own 0 rfl | exact at_own 1 rfl | exact at_own 2 rfl | exact at_own 3 rfl | exact at_own 4 rfl | exact at_own 5 rfl | exact at_own 6 rfl | exact at_own 7 rfl | exact at_own 8 rfl | exact at_own 9 rfl | exact at_own 10 rfl | exact at_own 11 rfl | exact at_ro 0 rfl | exact at_ro 1 rfl | exact at_ro 2 rfl | exact at_ro 3 rfl) (by rfl)) (by exact Nat.le_of_ble_eq_true rfl) ?_; refine W.step tab_ok rfl rfl ?_) | (refine W.isStore ?_; refine W.store tab_ok rfl (by first | exact Upd.here | exact (Upd.there Upd.here) | exact (Upd.there (Upd.there Upd.here)) | exact (Upd.there (Upd.there (Upd.there Upd.here))) | exact (Upd.there (Upd.there (Upd.there (Upd.there Upd.here)))) | exact (Upd.there (Upd.there (Upd.there (Upd.there (Upd.there Upd.here))))) | exact (Upd.there (Upd.there (Upd.there (Upd.there (Upd.there (Upd.there Upd.here)))))) | exact (Upd.there (Upd.there (Upd.there (Upd.there (Upd.there (Upd.there (Upd.there Upd.here))))))) | exact (Upd.there (Upd.there (Upd.there (Upd.there (Upd.there (Upd.there (Upd.there (Upd.there Upd.here)))))))) | exact (Upd.there (Upd.there (Upd.there (Upd.there (Upd.there (Upd.there (Upd.there (Upd.there (Upd.there Upd.here))))))))) | exact (Upd.there (Upd.there (Upd.there (Upd.there (Upd.there (Upd.there (Upd.there (Upd.there (Upd.there (Upd.there Upd.here)))))))))) | exact (Upd.there (Upd.there (Upd.there (Upd.there (Upd.there (Upd.there (Upd.there (Upd.there (Upd.there (Upd.there (Upd.there Upd.here)))))))))))) rfl rfl rfl rfl rfl (by rfl) ?_; refine W.step tab_ok rfl rfl ?_) | (refine W.isNew ?_; refine W.new tab_ok rfl rfl (by exact Nat.le_of_ble_eq_true rfl) ?_; intro _; refine W.step tab_ok rfl rfl ?_) | (refine W.isBox ?_; refine W.box rfl rfl (by exact Nat.le_of_ble_eq_true rfl) ?_; intro _; refine W.step tab_ok rfl rfl ?_))
  refine W.primU (mapClear (f := Value.int .i64) (m := p.tbl) (H := [(bm, .map es clock)]) Try.underlying90 rfl (by intro p hp; simp [hp]) ⟨es, clock, rfl, hm⟩) (by repeat (first | exact Sel.nil | (apply Sel.cons; (repeat (first | exact Pick.here | apply Pick.there))))) ?_
  rintro _ _ ⟨_, rfl, es2, clock2, rfl, hm2⟩
  refine W.step tab_ok rfl rfl ?_
  repeat (first | (refine W.isLoad ?_; refine W.val (OpVal.load tab_ok rfl (by first | exact at_own 0 rfl | exact at_own 1 rfl | exact at_own 2 rfl | exact at_own 3 rfl | exact at_own 4 rfl | exact at_own 5 rfl | exact at_own 6 rfl | exact at_own 7 rfl | exact at_own 8 rfl | exact at_own 9 rfl | exact at_own 10 rfl | exact at_own 11 rfl | exact at_ro 0 rfl | exact at_ro 1 rfl | exact at_ro 2 rfl | exact at_ro 3 rfl) (by rfl)) (by exact Nat.le_of_ble_eq_true rfl) ?_; refine W.step tab_ok rfl rfl ?_) | (refine W.isStore ?_; refine W.store tab_ok rfl (by first | exact Upd.here | exact (Upd.there Upd.here) | exact (Upd.there (Upd.there Upd.here)) | exact (Upd.there (Upd.there (Upd.there Upd.here))) | exact (Upd.there (Upd.there (Upd.there (Upd.there Upd.here)))) | exact (Upd.there (Upd.there (Upd.there (Upd.there (Upd.there Upd.here))))) | exact (Upd.there (Upd.there (Upd.there (Upd.there (Upd.there (Upd.there Upd.here)))))) | exact (Upd.there (Upd.there (Upd.there (Upd.there (Upd.there (Upd.there (Upd.there Upd.here))))))) | exact (Upd.there (Upd.there (Upd.there (Upd.there (Upd.there (Upd.there (Upd.there (Upd.there Upd.here)))))))) | exact (Upd.there (Upd.there (Upd.there (Upd.there (Upd.there (Upd.there (Upd.there (Upd.there (Upd.there Upd.here))))))))) | exact (Upd.there (Upd.there (Upd.there (Upd.there (Upd.there (Upd.there (Upd.there (Upd.there (Upd.there (Upd.there Upd.here)))))))))) | exact (Upd.there (Upd.there (Upd.there (Upd.there (Upd.there (Upd.there (Upd.there (Upd.there (Upd.there (Upd.there (Upd.there Upd.here)))))))))))) rfl rfl rfl rfl rfl (by rfl) ?_; refine W.step tab_ok rfl rfl ?_) | (refine W.isNew ?_; refine W.new tab_ok rfl rfl (by exact Nat.le_of_ble_eq_true rfl) ?_; intro _; refine W.step tab_ok rfl rfl ?_) | (refine W.isBox ?_; refine W.box rfl rfl (by exact Nat.le_of_ble_eq_true rfl) ?_; intro _; refine W.step tab_ok rfl rfl ?_))
  refine W.group [2, 1, 0] rfl rfl ?_
  refine fin0 _ _ (FinOk.first 1 .nil rfl ?_)
  refine ⟨_, rfl, bf, bm, es2, clock2, ?_, hm2⟩
  have e : (flat p.fs).take 0 ++ flat (List.replicate p.fs.length Fr.zero) ++ (flat p.fs).drop (0 + p.fs.length * 37) = flat (List.replicate p.fs.length Fr.zero) := by
    rw [List.drop_of_length_le (by omega)]; simp
  rw [e]
  simp [Pt.clear, Pt.new]
theorem PDirty_spec (p : Pt) (hpo : p.Ok) (b : Nat) (H : HL) (hp : PtAt p b H) : Ctr Try.prog 37 [.pointer (some ⟨b, 0, none⟩)] [] H (fun v L' => ∃ a cap Hs, v = .slice a p.dirty.length cap ∧ L' = [Hs] ∧
    Own 1 3 (ints p.dirty) a p.dirty.length cap Hs) := by
  have hok := hpo.1
  have h64 := hpo.2.2
  obtain ⟨bf, bm, es, clock, rfl, hm⟩ := hp
  refine Ctr.enter (n := 25) [.tmp 2] [(0, _)] Try.func37 rfl rfl rfl (Nat.le_of_ble_eq_true rfl) Try.call37 ⟨rfl, trivial⟩ ?_
  intro cx fin fin0
  refine W.step tab_ok rfl rfl ?_
  repeat (first | (refine W.isLoad ?_; refine W.val (OpVal.load tab_ok rfl (by first | exact at_own 0 rfl | exact at_own 1 rfl | exact at_own 2 rfl | exact at_own 3 rfl | exact at_own 4 rfl | exact at_own 5 rfl | exact at_own 6 rfl | exact at_own 7 rfl | exact at_own 8 rfl | exact at_own 9 rfl | exact at_own 10 rfl | exact at_own 11 rfl | exact at_ro 0 rfl | exact at_ro 1 rfl | exact at_ro 2 rfl | exact at_ro 3 rfl) (by rfl)) (by exact Nat.le_of_ble_eq_true rfl) ?_; refine W.step tab_ok rfl rfl ?_) | (refine W.isStore ?_; refine W.store tab_ok rfl (by first | exact Upd.here | exact (Upd.there Upd.here) | exact (Upd.there (Upd.there Upd.here)) | exact (Upd.there (Upd.there (Upd.there Upd.here))) | exact (Upd.there (Upd.there (Upd.there (Upd.there Upd.here)))) | exact (Upd.there (Upd.there (Upd.there (Upd.there (Upd.there Upd.here))))) | exact (Upd.there (Upd.there (Upd.there (Upd.there (Upd.there (Upd.there Upd.here)))))) | exact (Upd.there (Upd.there (Upd.there (Upd.there (Upd.there (Upd.there (Upd.there Upd.here))))))) | exact (Upd.there (Upd.there (Upd.there (Upd.there (Upd.there (Upd.there (Upd.there (Upd.there Upd.here)))))))) | exact (Upd.there (Upd.there (Upd.there (Upd.there (Upd.there (Upd.there (Upd.there (Upd.there (Upd.there Upd.here))))))))) | exact (Upd.there (Upd.there (Upd.there (Upd.there (Upd.there (Upd.there (Upd.there (Upd.there (Upd.there (Upd.there Upd.here)))))))))) | exact (Upd.there (Upd.there (Upd.there (Upd.there (Upd.there (Upd.there (Upd.there (Upd.there (Upd.there (Upd.there (Upd.there Upd.here)))))))))))) rfl rfl rfl rfl rfl (by rfl) ?_; refine W.step tab_ok rfl rfl ?_) | (refine W.isNew ?_; refine W.new tab_ok rfl rfl (by exact Nat.le_of_ble_eq_true rfl) ?_; intro _; refine W.step tab_ok rfl rfl ?_) | (refine W.isBox ?_; refine W.box rfl rfl (by exact Nat.le_of_ble_eq_true rfl) ?_; intro _; refine W.step tab_ok rfl rfl ?_))
  refine W.nilChunk ?_
  refine W.loop (fun k ρ1 L1 => ∃ (j : Nat) (ds : List Int) (aa : Option Addr) (nn cc : Nat) (Hl : HL), j ≤ p.fs.length ∧ ds = dirtyFrom (p.fs.take j) 0 ∧ nn = ds.length ∧ Own 1 3 (ints ds) aa nn cc Hl ∧ k = p.fs.length - j ∧ ρ1 = [(11, .int .i64 (j : Int)), (10, .int .i64 (p.fs.length : Int)), (9, .slice (some ⟨bf, 0, none⟩) p.fs.length p.fs.length), (3, .slice aa nn cc)] ∧ L1 = [Hl]) _ _ _ (by repeat (first | exact trivial | refine ⟨rfl, ?_⟩)) (by repeat (first | exact Sel.nil | (apply Sel.cons; (repeat (first | exact Pick.here | apply Pick.there))))) (⟨0, [], none, 0, 0, [], Nat.zero_le _, rfl, rfl, Own.nil _ _, rfl, rfl, rfl⟩) ?_
  rintro k ρ1 L1 ⟨j, ds, aa, nn, cc, Hl, hj, hds, hnn, hown, rfl, rfl, rfl⟩
  refine W.step tab_ok rfl rfl ?_
  by_cases hlt : j < p.fs.length
  · refine W.iteT rfl (by simp; omega) (W.step tab_ok rfl rfl ?_)
    have hfo := hok _ (List.getElem_mem hlt)
    have hnx : dirtyFrom (p.fs.take (j + 1)) 0 = ds ++ (if p.fs[j].dirty = true then [(j : Int)] else []) := by
      rw [List.take_add_one, List.getElem?_eq_getElem hlt, Option.toList_some, dirtyFrom_snoc, ← hds, List.length_take, Nat.min_eq_left hj, Nat.zero_add]
    have hlen : ds.length ≤ 64 := by
      have := dirtyFrom_len (p.fs.take j) 0
      rw [← hds, List.length_take] at this
      omega
    have hld : ∀ (n : Nat) (cx : Cx) (ρ : Env) (L : List HL) (x : Operand) (ty : Nat) R, ev? ρ x = some (.pointer (some ⟨bf, 0 + j * 37, none⟩)) → At R L bf (.cells (flat p.fs).toArray 51 (0, 0)) → OpVal Try.prog n R cx (.load 51 x) ty ρ L p.fs[j].v := fun n cx ρ L x ty R hx hb => load_frame tab_ok rfl hok hlt hx hb
    generalize p.fs[j] = f at hfo hnx hld
    refine W.val (OpVal.ixSl tab_ok rfl rfl rfl rfl rfl hlt) (by exact Nat.le_of_ble_eq_true rfl) (W.step tab_ok rfl rfl ?_)
    refine W.val (hld _ _ _ _ _ _ _ rfl (at_ro 1 rfl)) (by exact Nat.le_of_ble_eq_true rfl) (W.step tab_ok rfl rfl ?_)
    refine W.new tab_ok rfl rfl (by decide) ?_
    intro bt
    refine W.step tab_ok rfl rfl ?_
    refine W.store tab_ok rfl Upd.here rfl rfl rfl (Fr.l_len hfo) (Fr.l_one f) (store_all hfo rfl) (W.step tab_ok rfl rfl ?_)
    refine W.val (OpVal.load (v := .bool f.dirty) tab_ok rfl (at_own 0 rfl) rfl) (by exact Nat.le_of_ble_eq_true rfl) (W.step tab_ok rfl rfl ?_)
    by_cases hd : f.dirty = true
    · rw [if_pos hd] at hnx
      refine W.iteT rfl (by exact hd) (W.step tab_ok rfl rfl ?_)
      refine W.slit (ps := [_]) tab_ok rfl rfl rfl rfl rfl rfl rfl (by repeat (first | exact trivial | refine ⟨⟨_, _, _, rfl, rfl, rfl⟩, ?_⟩)) rfl (by exact Nat.le_of_ble_eq_true rfl) (by exact Nat.le_of_ble_eq_true rfl) ?_
      intro bq
      refine W.step tab_ok rfl rfl ?_
      refine W.prim (app tab_ok rfl rfl rfl (hown) (by intro p hp; simp [hp]) rfl (by first | exact at_own 0 rfl | exact at_own 1 rfl | exact at_own 2 rfl | exact at_own 3 rfl | exact at_own 4 rfl | exact at_own 5 rfl | exact at_own 6 rfl | exact at_own 7 rfl | exact at_own 8 rfl | exact at_own 9 rfl | exact at_own 10 rfl | exact at_own 11 rfl | exact at_ro 0 rfl | exact at_ro 1 rfl | exact at_ro 2 rfl | exact at_ro 3 rfl | exact at_ro 4 rfl | exact at_ro 5 rfl) rfl rfl (by omega) (by omega)) (by repeat (first | exact Sel.nil | (apply Sel.cons; (repeat (first | exact Pick.here | apply Pick.there))))) (by exact Nat.le_of_ble_eq_true rfl) ?_
      rintro _ _ ⟨_, _, _, rfl, rfl, ho⟩
      refine W.step tab_ok rfl rfl ?_
      have ei : ints ds ++ [.int .i64 (j : Int)] = ints (ds ++ [(j : Int)]) := by simp [ints]
      rw [ei] at ho
      refine W.val (OpVal.add rfl rfl (i64_in _ (by omega))) (by exact Nat.le_of_ble_eq_true rfl) (W.step tab_ok rfl rfl ?_)
      refine W.rnd _ _ (by repeat (first | exact trivial | refine ⟨rfl, ?_⟩)) (by repeat (first | exact Sel.nil | (apply Sel.cons; (repeat (first | exact Pick.here | apply Pick.there))))) (⟨p.fs.length - (j + 1), by omega, j + 1, _, _, _, _, _, by omega, hnx.symm, by simp [hnn], ho, rfl, rfl, rfl⟩)
    · rw [if_neg hd, List.append_nil] at hnx
      refine W.iteF rfl (by simpa using hd) (W.step tab_ok rfl rfl ?_)
      refine W.val (OpVal.add rfl rfl (i64_in _ (by omega))) (by exact Nat.le_of_ble_eq_true rfl) (W.step tab_ok rfl rfl ?_)
      refine W.rnd _ _ (by repeat (first | exact trivial | refine ⟨rfl, ?_⟩)) (by repeat (first | exact Sel.nil | (apply Sel.cons; (repeat (first | exact Pick.here | apply Pick.there))))) (⟨p.fs.length - (j + 1), by omega, j + 1, _, _, _, _, _, by omega, hnx.symm, hnn, hown, rfl, rfl, rfl⟩)
  · refine W.iteF rfl (by simp; omega) (W.step tab_ok rfl rfl ?_)
    have hjn : j = p.fs.length := by omega
    subst hjn
    rw [List.take_length] at hds
    have hpd : p.dirty = ds := hds.symm
    refine W.ret (fin _ _ (FinOk.first 1 (.tmp rfl .nil) rfl ?_))
    rw [hpd, ← hnn]
    exact ⟨aa, cc, Hl, rfl, rfl, hown⟩
end Go.Proofs.Ytdhjmeoppmpilaa
