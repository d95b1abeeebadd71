/-
  The layer's example; pages loaded into victims go in the row in which they came.
-/
import Derived.Test.YtdhjmeoppmpilaaPi
import Derived.Test.YtdhjmeoppmpilaaAr
namespace Go.Proofs.Ytdhjmeoppmpilaa
open Go Go.Sl Go.IntWalk
set_option maxHeartbeats 4000000
set_option maxRecDepth 20000
def zeros : List Int := List.replicate 32 0
theorem zeros_ok : u8ok zeros := by intro x hx; simp [zeros] at hx; omega
theorem zeros_ro {ex : TypeId} (b : Nat) {l : List Value} (h : l = u8s zeros) : RoSl 1 (u8s zeros) (some ⟨b, 0, none⟩) zeros.length [(b, .cells l.toArray ex (0, 0))] := by
  subst h
  exact ⟨rfl, .inr ⟨b, 0, u8s zeros, ex, (0, 0), rfl, rfl, by decide, rfl⟩⟩
theorem rep_zeros : repL 32 [.int .u8 0] = u8s zeros := rfl
def victimV (o : Option Nat) : Value := match o with | some i => .tuple #[.int .i64 (i : Int), .bool true] | none => .tuple #[.int .i64 0, .bool false]
theorem plives_spec : Ctr Try.prog 33 [] [] [] (fun v L' => v = .bool true ∧ L' = []) := by
  have i0 : (Pt.new 1).Inv := Pt.new_inv (by decide) (by decide)
  have i1 : ((Pt.new 1).load 0 5 zeros).1.Inv := Pt.load_inv i0 0 5 zeros_ok
  have i2 : (((Pt.new 1).load 0 5 zeros).1.victim.1).Inv := Pt.victim_inv i1
  have i3 : ((((Pt.new 1).load 0 5 zeros).1.victim.1).doPage 5 Fr.pin).1.Inv := Pt.doPage_inv i2 5 pin_keeps
  have e1 : ((Pt.new 1).load 0 5 zeros).2 = 0 := by decide +kernel
  have e2 : (((Pt.new 1).load 0 5 zeros).1.victim).2 = some 0 := by decide +kernel
  have e3 : ((((Pt.new 1).load 0 5 zeros).1.victim.1).doPage 5 Fr.pin).2 = 0 := by decide +kernel
  have e4 : (((((Pt.new 1).load 0 5 zeros).1.victim.1).doPage 5 Fr.pin).1.victim).2 = none := by decide +kernel
  have hl : ((32 : Nat) : Int) = 32 := rfl
  refine Ctr.enter (n := 51) [.tmp 0] [] Try.func33 rfl rfl rfl (Nat.le_of_ble_eq_true rfl) Try.call33 trivial ?_
  intro cx fin fin0
  refine W.step tab_ok rfl rfl ?_
  refine W.call rfl rfl rfl rfl (New_spec 1) (by repeat (first | exact Sel.nil | (apply Sel.cons; (repeat (first | exact Pick.here | apply Pick.there))))) (by repeat (first | exact RoIn.nil | exact RoIn.same | refine RoIn.cons (by first | exact at_own 0 rfl | exact at_own 1 rfl | exact at_own 2 rfl | exact at_own 3 rfl | exact at_own 4 rfl | exact at_own 5 rfl | exact at_own 6 rfl | exact at_own 7 rfl | exact at_own 8 rfl | exact at_own 9 rfl | exact at_own 10 rfl | exact at_own 11 rfl | exact at_ro 0 rfl | exact at_ro 1 rfl | exact at_ro 2 rfl | exact at_ro 3 rfl | exact at_ro 4 rfl | exact at_ro 5 rfl) ?_ | refine RoIn.append ?_ ?_ | exact RoIn.own 0 rfl | exact RoIn.own 1 rfl | exact RoIn.own 2 rfl | exact RoIn.own 3 rfl | exact RoIn.own 4 rfl | exact RoIn.own 5 rfl | exact RoIn.own 6 rfl | exact RoIn.own 7 rfl | exact RoIn.own 8 rfl | exact RoIn.own 9 rfl | exact RoIn.own 10 rfl | exact RoIn.own 11 rfl | (intro p hp; simp [hp]; done))) (by decide) ?_
  rintro _ _ (⟨h, rfl, rfl⟩ | ⟨_, b, H, rfl, rfl, h0⟩)
  · exact absurd (by decide) h
  · have hL := fun bz => Load_spec _ i0.ok b H h0 0 5 zeros (some ⟨bz, 0, none⟩) 32 [(bz, .cells (u8s zeros).toArray 5 (0, 0))] (zeros_ro bz rfl)
    rw [e1] at hL
    refine W.step tab_ok rfl rfl ?_
    repeat (first | refine W.guardGo rfl rfl (by first | rfl | (simp []; done) | omega) (W.step tab_ok rfl rfl ?_) | refine W.guardSkip rfl rfl (by first | rfl | (simp []; done) | omega) (by decide) (W.step tab_ok rfl rfl ?_) | refine W.guardUndef rfl rfl (by decide) (W.step tab_ok rfl rfl ?_) | refine W.val (OpVal.pickT rfl (by first | rfl | (simp []; done) | omega) rfl) (by decide) (W.step tab_ok rfl rfl ?_) | refine W.val (OpVal.pickF rfl (by first | rfl | (simp []; done) | omega) rfl) (by decide) (W.step tab_ok rfl rfl ?_) | refine W.val (OpVal.neBool tab_ok rfl rfl rfl) (by decide) (W.step tab_ok rfl rfl ?_) | refine W.val (OpVal.eqBool tab_ok rfl rfl rfl) (by decide) (W.step tab_ok rfl rfl ?_) | refine W.val (OpVal.eqNil tab_ok rfl rfl rfl) (by decide) (W.step tab_ok rfl rfl ?_) | refine W.val (OpVal.neNil tab_ok rfl rfl rfl) (by decide) (W.step tab_ok rfl rfl ?_))
    refine W.iteF rfl (by rfl) (W.step tab_ok rfl rfl ?_)
    refine W.nw (NewOf.mks (bytes := 1) (len := 32) (cap := 32) tab_ok rfl rfl rfl rfl rfl rfl rfl rfl rfl (Nat.le_refl _) (by decide) (by decide)) (by decide) ?_
    intro _
    refine W.step tab_ok rfl rfl ?_
    rw [rep_zeros]
    refine W.call rfl rfl rfl rfl (hL _) (by repeat (first | exact Sel.nil | (apply Sel.cons; (repeat (first | exact Pick.here | apply Pick.there))))) (by repeat (first | exact RoIn.nil | exact RoIn.same | refine RoIn.cons (by first | exact at_own 0 rfl | exact at_own 1 rfl | exact at_own 2 rfl | exact at_own 3 rfl | exact at_own 4 rfl | exact at_own 5 rfl | exact at_own 6 rfl | exact at_own 7 rfl | exact at_own 8 rfl | exact at_own 9 rfl | exact at_own 10 rfl | exact at_own 11 rfl | exact at_ro 0 rfl | exact at_ro 1 rfl | exact at_ro 2 rfl | exact at_ro 3 rfl | exact at_ro 4 rfl | exact at_ro 5 rfl) ?_ | refine RoIn.append ?_ ?_ | exact RoIn.own 0 rfl | exact RoIn.own 1 rfl | exact RoIn.own 2 rfl | exact RoIn.own 3 rfl | exact RoIn.own 4 rfl | exact RoIn.own 5 rfl | exact RoIn.own 6 rfl | exact RoIn.own 7 rfl | exact RoIn.own 8 rfl | exact RoIn.own 9 rfl | exact RoIn.own 10 rfl | exact RoIn.own 11 rfl | (intro p hp; simp [hp]; done))) (by decide) ?_
    rintro _ _ ⟨rfl, H1, rfl, h1⟩
    refine W.step tab_ok rfl rfl ?_
    generalize ((Pt.new 1).load 0 5 zeros).1 = p1 at *
    have hV := Victim_spec p1 i1.ok i1.hand b H1 h1
    rw [e2] at hV
    refine W.call rfl rfl rfl rfl (hV) (by repeat (first | exact Sel.nil | (apply Sel.cons; (repeat (first | exact Pick.here | apply Pick.there))))) (by repeat (first | exact RoIn.nil | exact RoIn.same | refine RoIn.cons (by first | exact at_own 0 rfl | exact at_own 1 rfl | exact at_own 2 rfl | exact at_own 3 rfl | exact at_own 4 rfl | exact at_own 5 rfl | exact at_own 6 rfl | exact at_own 7 rfl | exact at_own 8 rfl | exact at_own 9 rfl | exact at_own 10 rfl | exact at_own 11 rfl | exact at_ro 0 rfl | exact at_ro 1 rfl | exact at_ro 2 rfl | exact at_ro 3 rfl | exact at_ro 4 rfl | exact at_ro 5 rfl) ?_ | refine RoIn.append ?_ ?_ | exact RoIn.own 0 rfl | exact RoIn.own 1 rfl | exact RoIn.own 2 rfl | exact RoIn.own 3 rfl | exact RoIn.own 4 rfl | exact RoIn.own 5 rfl | exact RoIn.own 6 rfl | exact RoIn.own 7 rfl | exact RoIn.own 8 rfl | exact RoIn.own 9 rfl | exact RoIn.own 10 rfl | exact RoIn.own 11 rfl | (intro p hp; simp [hp]; done))) (by decide) ?_
    rintro _ _ ⟨rfl, H2, rfl, h2⟩
    refine W.step tab_ok rfl rfl ?_
    generalize p1.victim.1 = p2 at *
    have hP := PPin_spec p2 i2 b H2 h2 5
    rw [e3] at hP
    refine W.call rfl rfl rfl rfl (hP) (by repeat (first | exact Sel.nil | (apply Sel.cons; (repeat (first | exact Pick.here | apply Pick.there))))) (by repeat (first | exact RoIn.nil | exact RoIn.same | refine RoIn.cons (by first | exact at_own 0 rfl | exact at_own 1 rfl | exact at_own 2 rfl | exact at_own 3 rfl | exact at_own 4 rfl | exact at_own 5 rfl | exact at_own 6 rfl | exact at_own 7 rfl | exact at_own 8 rfl | exact at_own 9 rfl | exact at_own 10 rfl | exact at_own 11 rfl | exact at_ro 0 rfl | exact at_ro 1 rfl | exact at_ro 2 rfl | exact at_ro 3 rfl | exact at_ro 4 rfl | exact at_ro 5 rfl) ?_ | refine RoIn.append ?_ ?_ | exact RoIn.own 0 rfl | exact RoIn.own 1 rfl | exact RoIn.own 2 rfl | exact RoIn.own 3 rfl | exact RoIn.own 4 rfl | exact RoIn.own 5 rfl | exact RoIn.own 6 rfl | exact RoIn.own 7 rfl | exact RoIn.own 8 rfl | exact RoIn.own 9 rfl | exact RoIn.own 10 rfl | exact RoIn.own 11 rfl | (intro p hp; simp [hp]; done))) (by decide) ?_
    rintro _ _ ⟨rfl, H3, rfl, h3⟩
    refine W.step tab_ok rfl rfl ?_
    generalize (p2.doPage 5 Fr.pin).1 = p3 at *
    have hV2 := Victim_spec p3 i3.ok i3.hand b H3 h3
    rw [e4] at hV2
    refine W.call rfl rfl rfl rfl (hV2) (by repeat (first | exact Sel.nil | (apply Sel.cons; (repeat (first | exact Pick.here | apply Pick.there))))) (by repeat (first | exact RoIn.nil | exact RoIn.same | refine RoIn.cons (by first | exact at_own 0 rfl | exact at_own 1 rfl | exact at_own 2 rfl | exact at_own 3 rfl | exact at_own 4 rfl | exact at_own 5 rfl | exact at_own 6 rfl | exact at_own 7 rfl | exact at_own 8 rfl | exact at_own 9 rfl | exact at_own 10 rfl | exact at_own 11 rfl | exact at_ro 0 rfl | exact at_ro 1 rfl | exact at_ro 2 rfl | exact at_ro 3 rfl | exact at_ro 4 rfl | exact at_ro 5 rfl) ?_ | refine RoIn.append ?_ ?_ | exact RoIn.own 0 rfl | exact RoIn.own 1 rfl | exact RoIn.own 2 rfl | exact RoIn.own 3 rfl | exact RoIn.own 4 rfl | exact RoIn.own 5 rfl | exact RoIn.own 6 rfl | exact RoIn.own 7 rfl | exact RoIn.own 8 rfl | exact RoIn.own 9 rfl | exact RoIn.own 10 rfl | exact RoIn.own 11 rfl | (intro p hp; simp [hp]; done))) (by decide) ?_
    rintro _ _ ⟨rfl, H4, rfl, h4⟩
    refine W.step tab_ok rfl rfl ?_
    repeat (first | refine W.guardGo rfl rfl (by first | rfl | (simp []; done) | omega) (W.step tab_ok rfl rfl ?_) | refine W.guardSkip rfl rfl (by first | rfl | (simp []; done) | omega) (by decide) (W.step tab_ok rfl rfl ?_) | refine W.guardUndef rfl rfl (by decide) (W.step tab_ok rfl rfl ?_) | refine W.val (OpVal.pickT rfl (by first | rfl | (simp []; done) | omega) rfl) (by decide) (W.step tab_ok rfl rfl ?_) | refine W.val (OpVal.pickF rfl (by first | rfl | (simp []; done) | omega) rfl) (by decide) (W.step tab_ok rfl rfl ?_) | refine W.val (OpVal.neBool tab_ok rfl rfl rfl) (by decide) (W.step tab_ok rfl rfl ?_) | refine W.val (OpVal.eqBool tab_ok rfl rfl rfl) (by decide) (W.step tab_ok rfl rfl ?_) | refine W.val (OpVal.eqNil tab_ok rfl rfl rfl) (by decide) (W.step tab_ok rfl rfl ?_) | refine W.val (OpVal.neNil tab_ok rfl rfl rfl) (by decide) (W.step tab_ok rfl rfl ?_))
    refine W.ret (fin _ _ (FinOk.mk' ([]) (.tmp rfl .nil) (by repeat (first | exact Sel.nil | (apply Sel.cons; (repeat (first | exact Pick.here | apply Pick.there))))) rfl ?_))
    exact ⟨rfl, rfl⟩
def rounds (k : Nat) : Nat → Pt
  | 0 => Pt.new k
  | i + 1 => ((rounds k i).victim.1.load ((i % k : Nat) : Int) i zeros).1
theorem rounds_inv {k : Nat} (h1 : 1 ≤ k) (h2 : k ≤ 64) : ∀ i, (rounds k i).Inv
  | 0 => Pt.new_inv h1 h2
  | i + 1 => Pt.load_inv (Pt.victim_inv (rounds_inv h1 h2 i)) _ _ zeros_ok
def roundOk (k i : Nat) : Bool := (rounds k i).victim.2 == some (i % k) && ((rounds k i).victim.1.at_ ((i % k : Nat) : Int)).used == decide (k ≤ i) &&
  (!decide (k ≤ i) || ((rounds k i).victim.1.at_ ((i % k : Nat) : Int)).page == (i : Int) - k) && ((rounds k i).victim.1.load ((i % k : Nat) : Int) i zeros).2 == 0
theorem rounds_all : ∀ k < 5, ∀ i < 12, roundOk (k + 1) i = true := by decide +kernel
theorem PartRounds_spec (x y : Int) (hx : i64s x) (hy : i64s y) : Ctr Try.prog 6 [.int .i64 x, .int .i64 y] [] [] (fun v L' => v = .bool true ∧ L' = []) := by
  have rx := around_range x 5 (by decide)
  have ry := around_range y 12 (by decide)
  refine Ctr.enter (n := 79) [.tmp 4] [(0, _), (1, _)] Try.func6 rfl rfl rfl (Nat.le_of_ble_eq_true rfl) Try.call6 ⟨rfl, rfl, trivial⟩ ?_
  intro cx fin fin0
  refine W.step tab_ok rfl rfl ?_
  refine W.call rfl rfl rfl rfl (Around_spec x 5 hx (by decide)) (by repeat (first | exact Sel.nil | (apply Sel.cons; (repeat (first | exact Pick.here | apply Pick.there))))) (by repeat (first | exact RoIn.nil | exact RoIn.same | refine RoIn.cons (by first | exact at_own 0 rfl | exact at_own 1 rfl | exact at_own 2 rfl | exact at_own 3 rfl | exact at_own 4 rfl | exact at_own 5 rfl | exact at_own 6 rfl | exact at_own 7 rfl | exact at_own 8 rfl | exact at_own 9 rfl | exact at_own 10 rfl | exact at_own 11 rfl | exact at_ro 0 rfl | exact at_ro 1 rfl | exact at_ro 2 rfl | exact at_ro 3 rfl | exact at_ro 4 rfl | exact at_ro 5 rfl) ?_ | refine RoIn.append ?_ ?_ | exact RoIn.own 0 rfl | exact RoIn.own 1 rfl | exact RoIn.own 2 rfl | exact RoIn.own 3 rfl | exact RoIn.own 4 rfl | exact RoIn.own 5 rfl | exact RoIn.own 6 rfl | exact RoIn.own 7 rfl | exact RoIn.own 8 rfl | exact RoIn.own 9 rfl | exact RoIn.own 10 rfl | exact RoIn.own 11 rfl | (intro p hp; simp [hp]; done))) (by decide) ?_
  rintro _ _ ⟨rfl, rfl⟩
  refine W.step tab_ok rfl rfl ?_
  obtain ⟨k, hk⟩ : ∃ k : Nat, around x 5 = (k : Int) := ⟨(around x 5).toNat, by omega⟩
  obtain ⟨m, hm⟩ : ∃ m : Nat, 1 + around y 12 = (m : Int) := ⟨(1 + around y 12).toNat, by omega⟩
  rw [hk]
  refine W.val (OpVal.add rfl rfl (i64_in _ (by omega))) (by decide) (W.step tab_ok rfl rfl ?_)
  have hA := Around_spec y 12 hy (by decide)
  refine W.call rfl rfl rfl rfl (New_spec (1 + (k : Int))) (by repeat (first | exact Sel.nil | (apply Sel.cons; (repeat (first | exact Pick.here | apply Pick.there))))) (by repeat (first | exact RoIn.nil | exact RoIn.same | refine RoIn.cons (by first | exact at_own 0 rfl | exact at_own 1 rfl | exact at_own 2 rfl | exact at_own 3 rfl | exact at_own 4 rfl | exact at_own 5 rfl | exact at_own 6 rfl | exact at_own 7 rfl | exact at_own 8 rfl | exact at_own 9 rfl | exact at_own 10 rfl | exact at_own 11 rfl | exact at_ro 0 rfl | exact at_ro 1 rfl | exact at_ro 2 rfl | exact at_ro 3 rfl | exact at_ro 4 rfl | exact at_ro 5 rfl) ?_ | refine RoIn.append ?_ ?_ | exact RoIn.own 0 rfl | exact RoIn.own 1 rfl | exact RoIn.own 2 rfl | exact RoIn.own 3 rfl | exact RoIn.own 4 rfl | exact RoIn.own 5 rfl | exact RoIn.own 6 rfl | exact RoIn.own 7 rfl | exact RoIn.own 8 rfl | exact RoIn.own 9 rfl | exact RoIn.own 10 rfl | exact RoIn.own 11 rfl | (intro p hp; simp [hp]; done))) (by decide) ?_
  rintro _ _ (⟨h, rfl, rfl⟩ | ⟨_, b, H, rfl, rfl, h0⟩)
  · exact absurd (by omega) h
  · rw [show (1 + (k : Int)).toNat = k + 1 from by omega] at h0
    refine W.step tab_ok rfl rfl ?_
    repeat (first | refine W.guardGo rfl rfl (by first | rfl | (simp []; done) | omega) (W.step tab_ok rfl rfl ?_) | refine W.guardSkip rfl rfl (by first | rfl | (simp []; done) | omega) (by decide) (W.step tab_ok rfl rfl ?_) | refine W.guardUndef rfl rfl (by decide) (W.step tab_ok rfl rfl ?_) | refine W.val (OpVal.pickT rfl (by first | rfl | (simp []; done) | omega) rfl) (by decide) (W.step tab_ok rfl rfl ?_) | refine W.val (OpVal.pickF rfl (by first | rfl | (simp []; done) | omega) rfl) (by decide) (W.step tab_ok rfl rfl ?_) | refine W.val (OpVal.neBool tab_ok rfl rfl rfl) (by decide) (W.step tab_ok rfl rfl ?_) | refine W.val (OpVal.eqBool tab_ok rfl rfl rfl) (by decide) (W.step tab_ok rfl rfl ?_) | refine W.val (OpVal.eqNil tab_ok rfl rfl rfl) (by decide) (W.step tab_ok rfl rfl ?_) | refine W.val (OpVal.neNil tab_ok rfl rfl rfl) (by decide) (W.step tab_ok rfl rfl ?_))
    refine W.iteF rfl (by rfl) (W.step tab_ok rfl rfl ?_)
    refine W.loop (fun q ρ1 L1 => ∃ (i : Nat) (H' : HL), i ≤ m ∧ PtAt (rounds (k + 1) i) b H' ∧ q = m - i ∧ ρ1 = [(8, .int .i64 (i : Int)), (6, .pointer (some ⟨b, 0, none⟩)), (5, .int .i64 (1 + (k : Int))), (1, .int .i64 y)] ∧ L1 = [H']) _ _ _ (by repeat (first | exact trivial | refine ⟨rfl, ?_⟩)) (by repeat (first | exact Sel.nil | (apply Sel.cons; (repeat (first | exact Pick.here | apply Pick.there))))) (⟨0, H, Nat.zero_le _, h0, rfl, rfl, rfl⟩) ?_
    rintro q ρ1 L1 ⟨i, H', hi, hp, rfl, rfl, rfl⟩
    have hinv := rounds_inv (k := k + 1) (by omega) (by omega) i
    have hV := Victim_spec _ hinv.ok hinv.hand b H' hp
    refine W.step tab_ok rfl rfl ?_
    refine W.call rfl rfl rfl rfl (hA) (by repeat (first | exact Sel.nil | (apply Sel.cons; (repeat (first | exact Pick.here | apply Pick.there))))) (by repeat (first | exact RoIn.nil | exact RoIn.same | refine RoIn.cons (by first | exact at_own 0 rfl | exact at_own 1 rfl | exact at_own 2 rfl | exact at_own 3 rfl | exact at_own 4 rfl | exact at_own 5 rfl | exact at_own 6 rfl | exact at_own 7 rfl | exact at_own 8 rfl | exact at_own 9 rfl | exact at_own 10 rfl | exact at_own 11 rfl | exact at_ro 0 rfl | exact at_ro 1 rfl | exact at_ro 2 rfl | exact at_ro 3 rfl | exact at_ro 4 rfl | exact at_ro 5 rfl) ?_ | refine RoIn.append ?_ ?_ | exact RoIn.own 0 rfl | exact RoIn.own 1 rfl | exact RoIn.own 2 rfl | exact RoIn.own 3 rfl | exact RoIn.own 4 rfl | exact RoIn.own 5 rfl | exact RoIn.own 6 rfl | exact RoIn.own 7 rfl | exact RoIn.own 8 rfl | exact RoIn.own 9 rfl | exact RoIn.own 10 rfl | exact RoIn.own 11 rfl | (intro p hp; simp [hp]; done))) (by decide) ?_
    rintro _ _ ⟨rfl, rfl⟩
    refine W.step tab_ok rfl rfl ?_
    refine W.val (OpVal.add rfl rfl (i64_in _ (by omega))) (by decide) (W.step tab_ok rfl rfl ?_)
    rw [hm]
    by_cases hlt : i < m
    · refine W.iteT rfl (by simp; omega) (W.step tab_ok rfl rfl ?_)
      have hall := rounds_all k (by omega) i (by omega)
      unfold roundOk at hall
      simp only [Bool.and_eq_true, beq_iff_eq] at hall
      obtain ⟨⟨⟨a1, a2⟩, a3⟩, a4⟩ := hall
      rw [a1] at hV
      have hinv2 := Pt.victim_inv hinv
      have hnext : rounds (k + 1) (i + 1) = ((rounds (k + 1) i).victim.1.load ((i % (k + 1) : Nat) : Int) i zeros).1 := rfl
      generalize (rounds (k + 1) i).victim.1 = p1 at *
      refine W.call rfl rfl rfl rfl (hV) (by repeat (first | exact Sel.nil | (apply Sel.cons; (repeat (first | exact Pick.here | apply Pick.there))))) (by repeat (first | exact RoIn.nil | exact RoIn.same | refine RoIn.cons (by first | exact at_own 0 rfl | exact at_own 1 rfl | exact at_own 2 rfl | exact at_own 3 rfl | exact at_own 4 rfl | exact at_own 5 rfl | exact at_own 6 rfl | exact at_own 7 rfl | exact at_own 8 rfl | exact at_own 9 rfl | exact at_own 10 rfl | exact at_own 11 rfl | exact at_ro 0 rfl | exact at_ro 1 rfl | exact at_ro 2 rfl | exact at_ro 3 rfl | exact at_ro 4 rfl | exact at_ro 5 rfl) ?_ | refine RoIn.append ?_ ?_ | exact RoIn.own 0 rfl | exact RoIn.own 1 rfl | exact RoIn.own 2 rfl | exact RoIn.own 3 rfl | exact RoIn.own 4 rfl | exact RoIn.own 5 rfl | exact RoIn.own 6 rfl | exact RoIn.own 7 rfl | exact RoIn.own 8 rfl | exact RoIn.own 9 rfl | exact RoIn.own 10 rfl | exact RoIn.own 11 rfl | (intro p hp; simp [hp]; done))) (by decide) ?_
      rintro _ _ ⟨rfl, H1, rfl, h1⟩
      refine W.step tab_ok rfl rfl ?_
      have em : (i : Int).tmod (1 + (k : Int)) = ((i % (k + 1) : Nat) : Int) := by
        rw [show (1 + (k : Int)) = ((k + 1 : Nat) : Int) from by omega]
        rfl
      repeat (first | refine W.guardGo rfl rfl (by first | rfl | (simp []; done) | omega) (W.step tab_ok rfl rfl ?_) | refine W.guardSkip rfl rfl (by first | rfl | (simp []; done) | omega) (by decide) (W.step tab_ok rfl rfl ?_) | refine W.guardUndef rfl rfl (by decide) (W.step tab_ok rfl rfl ?_) | refine W.val (OpVal.pickT rfl (by first | rfl | (simp []; done) | omega) rfl) (by decide) (W.step tab_ok rfl rfl ?_) | refine W.val (OpVal.pickF rfl (by first | rfl | (simp []; done) | omega) rfl) (by decide) (W.step tab_ok rfl rfl ?_) | refine W.val (OpVal.neBool tab_ok rfl rfl rfl) (by decide) (W.step tab_ok rfl rfl ?_) | refine W.val (OpVal.eqBool tab_ok rfl rfl rfl) (by decide) (W.step tab_ok rfl rfl ?_) | refine W.val (OpVal.eqNil tab_ok rfl rfl rfl) (by decide) (W.step tab_ok rfl rfl ?_) | refine W.val (OpVal.neNil tab_ok rfl rfl rfl) (by decide) (W.step tab_ok rfl rfl ?_))
      refine W.val (OpVal.rem rfl rfl (by omega) em) (by decide) (W.step tab_ok rfl rfl ?_)
      repeat (first | refine W.guardGo rfl rfl (by first | rfl | (simp []; done) | omega) (W.step tab_ok rfl rfl ?_) | refine W.guardSkip rfl rfl (by first | rfl | (simp []; done) | omega) (by decide) (W.step tab_ok rfl rfl ?_) | refine W.guardUndef rfl rfl (by decide) (W.step tab_ok rfl rfl ?_) | refine W.val (OpVal.pickT rfl (by first | rfl | (simp []; done) | omega) rfl) (by decide) (W.step tab_ok rfl rfl ?_) | refine W.val (OpVal.pickF rfl (by first | rfl | (simp []; done) | omega) rfl) (by decide) (W.step tab_ok rfl rfl ?_) | refine W.val (OpVal.neBool tab_ok rfl rfl rfl) (by decide) (W.step tab_ok rfl rfl ?_) | refine W.val (OpVal.eqBool tab_ok rfl rfl rfl) (by decide) (W.step tab_ok rfl rfl ?_) | refine W.val (OpVal.eqNil tab_ok rfl rfl rfl) (by decide) (W.step tab_ok rfl rfl ?_) | refine W.val (OpVal.neNil tab_ok rfl rfl rfl) (by decide) (W.step tab_ok rfl rfl ?_))
      refine W.iteF rfl (by simp) (W.step tab_ok rfl rfl ?_)
      have hAt := PAt_spec p1 hinv2.ok b H1 h1 ((i % (k + 1) : Nat) : Int)
      have hok := Pt.at_ok hinv2.ok ((i % (k + 1) : Nat) : Int)
      have hL := fun bz => Load_spec p1 hinv2.ok b H1 h1 ((i % (k + 1) : Nat) : Int) i zeros (some ⟨bz, 0, none⟩) 32 [(bz, .cells (u8s zeros).toArray 5 (0, 0))] (zeros_ro bz rfl)
      rw [a4, ← hnext] at hL
      generalize p1.at_ ((i % (k + 1) : Nat) : Int) = f at hAt a2 a3 hok
      generalize ((i % (k + 1) : Nat) : Int) = vi at hAt hL
      refine W.call rfl rfl rfl rfl (hAt) (by repeat (first | exact Sel.nil | (apply Sel.cons; (repeat (first | exact Pick.here | apply Pick.there))))) (by repeat (first | exact RoIn.nil | exact RoIn.same | refine RoIn.cons (by first | exact at_own 0 rfl | exact at_own 1 rfl | exact at_own 2 rfl | exact at_own 3 rfl | exact at_own 4 rfl | exact at_own 5 rfl | exact at_own 6 rfl | exact at_own 7 rfl | exact at_own 8 rfl | exact at_own 9 rfl | exact at_own 10 rfl | exact at_own 11 rfl | exact at_ro 0 rfl | exact at_ro 1 rfl | exact at_ro 2 rfl | exact at_ro 3 rfl | exact at_ro 4 rfl | exact at_ro 5 rfl) ?_ | refine RoIn.append ?_ ?_ | exact RoIn.own 0 rfl | exact RoIn.own 1 rfl | exact RoIn.own 2 rfl | exact RoIn.own 3 rfl | exact RoIn.own 4 rfl | exact RoIn.own 5 rfl | exact RoIn.own 6 rfl | exact RoIn.own 7 rfl | exact RoIn.own 8 rfl | exact RoIn.own 9 rfl | exact RoIn.own 10 rfl | exact RoIn.own 11 rfl | (intro p hp; simp [hp]; done))) (by decide) ?_
      rintro _ _ ⟨rfl, rfl⟩
      refine W.step tab_ok rfl rfl ?_
      refine W.new tab_ok rfl rfl (by decide) ?_
      intro bt
      refine W.step tab_ok rfl rfl ?_
      refine W.store tab_ok rfl Upd.here rfl rfl rfl (Fr.l_len hok) (Fr.l_one f) (store_all hok rfl) (W.step tab_ok rfl rfl ?_)
      have hu : f.l[0 + 0 + 0]? = some (.bool f.used) := rfl
      have hpg : f.l[0 + 4]? = some (.int .i64 f.page) := rfl
      refine W.val (OpVal.load tab_ok rfl (at_own 0 rfl) hu) (by decide) (W.step tab_ok rfl rfl ?_)
      by_cases hki : k + 1 ≤ i
      · rw [decide_eq_true hki] at a2 a3
        simp only [Bool.not_true, Bool.false_or, beq_iff_eq] at a3
        have hki' : (1 + (k : Int)) ≤ (i : Int) := by omega
        have a3' : f.page = (i : Int) - (1 + (k : Int)) := by omega
        rw [a2]
        repeat (first | refine W.guardGo rfl rfl (by first | rfl | (simp [hki']; done) | omega) (W.step tab_ok rfl rfl ?_) | refine W.guardSkip rfl rfl (by first | rfl | (simp [hki']; done) | omega) (by decide) (W.step tab_ok rfl rfl ?_) | refine W.guardUndef rfl rfl (by decide) (W.step tab_ok rfl rfl ?_) | refine W.val (OpVal.pickT rfl (by first | rfl | (simp [hki']; done) | omega) rfl) (by decide) (W.step tab_ok rfl rfl ?_) | refine W.val (OpVal.pickF rfl (by first | rfl | (simp [hki']; done) | omega) rfl) (by decide) (W.step tab_ok rfl rfl ?_) | refine W.val (OpVal.neBool tab_ok rfl rfl rfl) (by decide) (W.step tab_ok rfl rfl ?_) | refine W.val (OpVal.eqBool tab_ok rfl rfl rfl) (by decide) (W.step tab_ok rfl rfl ?_) | refine W.val (OpVal.eqNil tab_ok rfl rfl rfl) (by decide) (W.step tab_ok rfl rfl ?_) | refine W.val (OpVal.neNil tab_ok rfl rfl rfl) (by decide) (W.step tab_ok rfl rfl ?_))
        refine W.val (OpVal.load tab_ok rfl (at_own 0 rfl) hu) (by decide) (W.step tab_ok rfl rfl ?_)
        rw [a2]
        repeat (first | refine W.guardGo rfl rfl (by first | rfl | (simp [hki']; done) | omega) (W.step tab_ok rfl rfl ?_) | refine W.guardSkip rfl rfl (by first | rfl | (simp [hki']; done) | omega) (by decide) (W.step tab_ok rfl rfl ?_) | refine W.guardUndef rfl rfl (by decide) (W.step tab_ok rfl rfl ?_) | refine W.val (OpVal.pickT rfl (by first | rfl | (simp [hki']; done) | omega) rfl) (by decide) (W.step tab_ok rfl rfl ?_) | refine W.val (OpVal.pickF rfl (by first | rfl | (simp [hki']; done) | omega) rfl) (by decide) (W.step tab_ok rfl rfl ?_) | refine W.val (OpVal.neBool tab_ok rfl rfl rfl) (by decide) (W.step tab_ok rfl rfl ?_) | refine W.val (OpVal.eqBool tab_ok rfl rfl rfl) (by decide) (W.step tab_ok rfl rfl ?_) | refine W.val (OpVal.eqNil tab_ok rfl rfl rfl) (by decide) (W.step tab_ok rfl rfl ?_) | refine W.val (OpVal.neNil tab_ok rfl rfl rfl) (by decide) (W.step tab_ok rfl rfl ?_))
        refine W.val (OpVal.load tab_ok rfl (at_own 0 rfl) hpg) (by decide) (W.step tab_ok rfl rfl ?_)
        rw [a3']
        repeat (first | refine W.guardGo rfl rfl (by first | rfl | (simp [hki']; done) | omega) (W.step tab_ok rfl rfl ?_) | refine W.guardSkip rfl rfl (by first | rfl | (simp [hki']; done) | omega) (by decide) (W.step tab_ok rfl rfl ?_) | refine W.guardUndef rfl rfl (by decide) (W.step tab_ok rfl rfl ?_) | refine W.val (OpVal.pickT rfl (by first | rfl | (simp [hki']; done) | omega) rfl) (by decide) (W.step tab_ok rfl rfl ?_) | refine W.val (OpVal.pickF rfl (by first | rfl | (simp [hki']; done) | omega) rfl) (by decide) (W.step tab_ok rfl rfl ?_) | refine W.val (OpVal.neBool tab_ok rfl rfl rfl) (by decide) (W.step tab_ok rfl rfl ?_) | refine W.val (OpVal.eqBool tab_ok rfl rfl rfl) (by decide) (W.step tab_ok rfl rfl ?_) | refine W.val (OpVal.eqNil tab_ok rfl rfl rfl) (by decide) (W.step tab_ok rfl rfl ?_) | refine W.val (OpVal.neNil tab_ok rfl rfl rfl) (by decide) (W.step tab_ok rfl rfl ?_))
        refine W.val (OpVal.sub rfl rfl (i64_in _ (by omega))) (by decide) (W.step tab_ok rfl rfl ?_)
        repeat (first | refine W.guardGo rfl rfl (by first | rfl | (simp [hki']; done) | omega) (W.step tab_ok rfl rfl ?_) | refine W.guardSkip rfl rfl (by first | rfl | (simp [hki']; done) | omega) (by decide) (W.step tab_ok rfl rfl ?_) | refine W.guardUndef rfl rfl (by decide) (W.step tab_ok rfl rfl ?_) | refine W.val (OpVal.pickT rfl (by first | rfl | (simp [hki']; done) | omega) rfl) (by decide) (W.step tab_ok rfl rfl ?_) | refine W.val (OpVal.pickF rfl (by first | rfl | (simp [hki']; done) | omega) rfl) (by decide) (W.step tab_ok rfl rfl ?_) | refine W.val (OpVal.neBool tab_ok rfl rfl rfl) (by decide) (W.step tab_ok rfl rfl ?_) | refine W.val (OpVal.eqBool tab_ok rfl rfl rfl) (by decide) (W.step tab_ok rfl rfl ?_) | refine W.val (OpVal.eqNil tab_ok rfl rfl rfl) (by decide) (W.step tab_ok rfl rfl ?_) | refine W.val (OpVal.neNil tab_ok rfl rfl rfl) (by decide) (W.step tab_ok rfl rfl ?_))
        refine W.nw (NewOf.mks (bytes := 1) (len := 32) (cap := 32) tab_ok rfl rfl rfl rfl rfl rfl rfl rfl rfl (Nat.le_refl _) (by decide) (by decide)) (by decide) ?_
        intro _
        refine W.step tab_ok rfl rfl ?_
        rw [rep_zeros]
        repeat (first | refine W.guardGo rfl rfl (by first | rfl | (simp [hki']; done) | omega) (W.step tab_ok rfl rfl ?_) | refine W.guardSkip rfl rfl (by first | rfl | (simp [hki']; done) | omega) (by decide) (W.step tab_ok rfl rfl ?_) | refine W.guardUndef rfl rfl (by decide) (W.step tab_ok rfl rfl ?_) | refine W.val (OpVal.pickT rfl (by first | rfl | (simp [hki']; done) | omega) rfl) (by decide) (W.step tab_ok rfl rfl ?_) | refine W.val (OpVal.pickF rfl (by first | rfl | (simp [hki']; done) | omega) rfl) (by decide) (W.step tab_ok rfl rfl ?_) | refine W.val (OpVal.neBool tab_ok rfl rfl rfl) (by decide) (W.step tab_ok rfl rfl ?_) | refine W.val (OpVal.eqBool tab_ok rfl rfl rfl) (by decide) (W.step tab_ok rfl rfl ?_) | refine W.val (OpVal.eqNil tab_ok rfl rfl rfl) (by decide) (W.step tab_ok rfl rfl ?_) | refine W.val (OpVal.neNil tab_ok rfl rfl rfl) (by decide) (W.step tab_ok rfl rfl ?_))
        refine W.call rfl rfl rfl rfl (hL _) (by repeat (first | exact Sel.nil | (apply Sel.cons; (repeat (first | exact Pick.here | apply Pick.there))))) (by repeat (first | exact RoIn.nil | exact RoIn.same | refine RoIn.cons (by first | exact at_own 0 rfl | exact at_own 1 rfl | exact at_own 2 rfl | exact at_own 3 rfl | exact at_own 4 rfl | exact at_own 5 rfl | exact at_own 6 rfl | exact at_own 7 rfl | exact at_own 8 rfl | exact at_own 9 rfl | exact at_own 10 rfl | exact at_own 11 rfl | exact at_ro 0 rfl | exact at_ro 1 rfl | exact at_ro 2 rfl | exact at_ro 3 rfl | exact at_ro 4 rfl | exact at_ro 5 rfl) ?_ | refine RoIn.append ?_ ?_ | exact RoIn.own 0 rfl | exact RoIn.own 1 rfl | exact RoIn.own 2 rfl | exact RoIn.own 3 rfl | exact RoIn.own 4 rfl | exact RoIn.own 5 rfl | exact RoIn.own 6 rfl | exact RoIn.own 7 rfl | exact RoIn.own 8 rfl | exact RoIn.own 9 rfl | exact RoIn.own 10 rfl | exact RoIn.own 11 rfl | (intro p hp; simp [hp]; done))) (by decide) ?_
        rintro _ _ ⟨rfl, H2, rfl, h2⟩
        refine W.step tab_ok rfl rfl ?_
        repeat (first | refine W.guardGo rfl rfl (by first | rfl | (simp [hki']; done) | omega) (W.step tab_ok rfl rfl ?_) | refine W.guardSkip rfl rfl (by first | rfl | (simp [hki']; done) | omega) (by decide) (W.step tab_ok rfl rfl ?_) | refine W.guardUndef rfl rfl (by decide) (W.step tab_ok rfl rfl ?_) | refine W.val (OpVal.pickT rfl (by first | rfl | (simp [hki']; done) | omega) rfl) (by decide) (W.step tab_ok rfl rfl ?_) | refine W.val (OpVal.pickF rfl (by first | rfl | (simp [hki']; done) | omega) rfl) (by decide) (W.step tab_ok rfl rfl ?_) | refine W.val (OpVal.neBool tab_ok rfl rfl rfl) (by decide) (W.step tab_ok rfl rfl ?_) | refine W.val (OpVal.eqBool tab_ok rfl rfl rfl) (by decide) (W.step tab_ok rfl rfl ?_) | refine W.val (OpVal.eqNil tab_ok rfl rfl rfl) (by decide) (W.step tab_ok rfl rfl ?_) | refine W.val (OpVal.neNil tab_ok rfl rfl rfl) (by decide) (W.step tab_ok rfl rfl ?_))
        refine W.iteF rfl (by rfl) (W.step tab_ok rfl rfl ?_)
        refine W.val (OpVal.add rfl rfl (i64_in _ (by omega))) (by decide) (W.step tab_ok rfl rfl ?_)
        refine W.rnd _ _ (by repeat (first | exact trivial | refine ⟨rfl, ?_⟩)) (by repeat (first | exact Sel.nil | (apply Sel.cons; (repeat (first | exact Pick.here | apply Pick.there))))) (⟨m - (i + 1), by omega, i + 1, _, by omega, h2, rfl, rfl, rfl⟩)
      · have hki' : ¬ (1 + (k : Int)) ≤ (i : Int) := by omega
        rw [decide_eq_false hki] at a2
        rw [a2]
        repeat (first | refine W.guardGo rfl rfl (by first | rfl | (simp [hki']; done) | omega) (W.step tab_ok rfl rfl ?_) | refine W.guardSkip rfl rfl (by first | rfl | (simp [hki']; done) | omega) (by decide) (W.step tab_ok rfl rfl ?_) | refine W.guardUndef rfl rfl (by decide) (W.step tab_ok rfl rfl ?_) | refine W.val (OpVal.pickT rfl (by first | rfl | (simp [hki']; done) | omega) rfl) (by decide) (W.step tab_ok rfl rfl ?_) | refine W.val (OpVal.pickF rfl (by first | rfl | (simp [hki']; done) | omega) rfl) (by decide) (W.step tab_ok rfl rfl ?_) | refine W.val (OpVal.neBool tab_ok rfl rfl rfl) (by decide) (W.step tab_ok rfl rfl ?_) | refine W.val (OpVal.eqBool tab_ok rfl rfl rfl) (by decide) (W.step tab_ok rfl rfl ?_) | refine W.val (OpVal.eqNil tab_ok rfl rfl rfl) (by decide) (W.step tab_ok rfl rfl ?_) | refine W.val (OpVal.neNil tab_ok rfl rfl rfl) (by decide) (W.step tab_ok rfl rfl ?_))
        refine W.val (OpVal.load tab_ok rfl (at_own 0 rfl) hu) (by decide) (W.step tab_ok rfl rfl ?_)
        rw [a2]
        repeat (first | refine W.guardGo rfl rfl (by first | rfl | (simp [hki']; done) | omega) (W.step tab_ok rfl rfl ?_) | refine W.guardSkip rfl rfl (by first | rfl | (simp [hki']; done) | omega) (by decide) (W.step tab_ok rfl rfl ?_) | refine W.guardUndef rfl rfl (by decide) (W.step tab_ok rfl rfl ?_) | refine W.val (OpVal.pickT rfl (by first | rfl | (simp [hki']; done) | omega) rfl) (by decide) (W.step tab_ok rfl rfl ?_) | refine W.val (OpVal.pickF rfl (by first | rfl | (simp [hki']; done) | omega) rfl) (by decide) (W.step tab_ok rfl rfl ?_) | refine W.val (OpVal.neBool tab_ok rfl rfl rfl) (by decide) (W.step tab_ok rfl rfl ?_) | refine W.val (OpVal.eqBool tab_ok rfl rfl rfl) (by decide) (W.step tab_ok rfl rfl ?_) | refine W.val (OpVal.eqNil tab_ok rfl rfl rfl) (by decide) (W.step tab_ok rfl rfl ?_) | refine W.val (OpVal.neNil tab_ok rfl rfl rfl) (by decide) (W.step tab_ok rfl rfl ?_))
        refine W.nw (NewOf.mks (bytes := 1) (len := 32) (cap := 32) tab_ok rfl rfl rfl rfl rfl rfl rfl rfl rfl (Nat.le_refl _) (by decide) (by decide)) (by decide) ?_
        intro _
        refine W.step tab_ok rfl rfl ?_
        rw [rep_zeros]
        repeat (first | refine W.guardGo rfl rfl (by first | rfl | (simp [hki']; done) | omega) (W.step tab_ok rfl rfl ?_) | refine W.guardSkip rfl rfl (by first | rfl | (simp [hki']; done) | omega) (by decide) (W.step tab_ok rfl rfl ?_) | refine W.guardUndef rfl rfl (by decide) (W.step tab_ok rfl rfl ?_) | refine W.val (OpVal.pickT rfl (by first | rfl | (simp [hki']; done) | omega) rfl) (by decide) (W.step tab_ok rfl rfl ?_) | refine W.val (OpVal.pickF rfl (by first | rfl | (simp [hki']; done) | omega) rfl) (by decide) (W.step tab_ok rfl rfl ?_) | refine W.val (OpVal.neBool tab_ok rfl rfl rfl) (by decide) (W.step tab_ok rfl rfl ?_) | refine W.val (OpVal.eqBool tab_ok rfl rfl rfl) (by decide) (W.step tab_ok rfl rfl ?_) | refine W.val (OpVal.eqNil tab_ok rfl rfl rfl) (by decide) (W.step tab_ok rfl rfl ?_) | refine W.val (OpVal.neNil tab_ok rfl rfl rfl) (by decide) (W.step tab_ok rfl rfl ?_))
        refine W.call rfl rfl rfl rfl (hL _) (by repeat (first | exact Sel.nil | (apply Sel.cons; (repeat (first | exact Pick.here | apply Pick.there))))) (by repeat (first | exact RoIn.nil | exact RoIn.same | refine RoIn.cons (by first | exact at_own 0 rfl | exact at_own 1 rfl | exact at_own 2 rfl | exact at_own 3 rfl | exact at_own 4 rfl | exact at_own 5 rfl | exact at_own 6 rfl | exact at_own 7 rfl | exact at_own 8 rfl | exact at_own 9 rfl | exact at_own 10 rfl | exact at_own 11 rfl | exact at_ro 0 rfl | exact at_ro 1 rfl | exact at_ro 2 rfl | exact at_ro 3 rfl | exact at_ro 4 rfl | exact at_ro 5 rfl) ?_ | refine RoIn.append ?_ ?_ | exact RoIn.own 0 rfl | exact RoIn.own 1 rfl | exact RoIn.own 2 rfl | exact RoIn.own 3 rfl | exact RoIn.own 4 rfl | exact RoIn.own 5 rfl | exact RoIn.own 6 rfl | exact RoIn.own 7 rfl | exact RoIn.own 8 rfl | exact RoIn.own 9 rfl | exact RoIn.own 10 rfl | exact RoIn.own 11 rfl | (intro p hp; simp [hp]; done))) (by decide) ?_
        rintro _ _ ⟨rfl, H2, rfl, h2⟩
        refine W.step tab_ok rfl rfl ?_
        repeat (first | refine W.guardGo rfl rfl (by first | rfl | (simp [hki']; done) | omega) (W.step tab_ok rfl rfl ?_) | refine W.guardSkip rfl rfl (by first | rfl | (simp [hki']; done) | omega) (by decide) (W.step tab_ok rfl rfl ?_) | refine W.guardUndef rfl rfl (by decide) (W.step tab_ok rfl rfl ?_) | refine W.val (OpVal.pickT rfl (by first | rfl | (simp [hki']; done) | omega) rfl) (by decide) (W.step tab_ok rfl rfl ?_) | refine W.val (OpVal.pickF rfl (by first | rfl | (simp [hki']; done) | omega) rfl) (by decide) (W.step tab_ok rfl rfl ?_) | refine W.val (OpVal.neBool tab_ok rfl rfl rfl) (by decide) (W.step tab_ok rfl rfl ?_) | refine W.val (OpVal.eqBool tab_ok rfl rfl rfl) (by decide) (W.step tab_ok rfl rfl ?_) | refine W.val (OpVal.eqNil tab_ok rfl rfl rfl) (by decide) (W.step tab_ok rfl rfl ?_) | refine W.val (OpVal.neNil tab_ok rfl rfl rfl) (by decide) (W.step tab_ok rfl rfl ?_))
        refine W.iteF rfl (by rfl) (W.step tab_ok rfl rfl ?_)
        refine W.val (OpVal.add rfl rfl (i64_in _ (by omega))) (by decide) (W.step tab_ok rfl rfl ?_)
        refine W.rnd _ _ (by repeat (first | exact trivial | refine ⟨rfl, ?_⟩)) (by repeat (first | exact Sel.nil | (apply Sel.cons; (repeat (first | exact Pick.here | apply Pick.there))))) (⟨m - (i + 1), by omega, i + 1, _, by omega, h2, rfl, rfl, rfl⟩)
    · refine W.iteF rfl (by simp; omega) (W.step tab_ok rfl rfl ?_)
      refine W.call rfl rfl rfl rfl (plives_spec) (by repeat (first | exact Sel.nil | (apply Sel.cons; (repeat (first | exact Pick.here | apply Pick.there))))) (by repeat (first | exact RoIn.nil | exact RoIn.same | refine RoIn.cons (by first | exact at_own 0 rfl | exact at_own 1 rfl | exact at_own 2 rfl | exact at_own 3 rfl | exact at_own 4 rfl | exact at_own 5 rfl | exact at_own 6 rfl | exact at_own 7 rfl | exact at_own 8 rfl | exact at_own 9 rfl | exact at_own 10 rfl | exact at_own 11 rfl | exact at_ro 0 rfl | exact at_ro 1 rfl | exact at_ro 2 rfl | exact at_ro 3 rfl | exact at_ro 4 rfl | exact at_ro 5 rfl) ?_ | refine RoIn.append ?_ ?_ | exact RoIn.own 0 rfl | exact RoIn.own 1 rfl | exact RoIn.own 2 rfl | exact RoIn.own 3 rfl | exact RoIn.own 4 rfl | exact RoIn.own 5 rfl | exact RoIn.own 6 rfl | exact RoIn.own 7 rfl | exact RoIn.own 8 rfl | exact RoIn.own 9 rfl | exact RoIn.own 10 rfl | exact RoIn.own 11 rfl | (intro p hp; simp [hp]; done))) (by decide) ?_
      rintro _ _ ⟨rfl, rfl⟩
      refine W.step tab_ok rfl rfl ?_
      refine W.ret (fin _ _ (FinOk.mk' ([]) (.tmp rfl .nil) (by repeat (first | exact Sel.nil | (apply Sel.cons; (repeat (first | exact Pick.here | apply Pick.there))))) rfl ?_))
      exact ⟨rfl, rfl⟩
end Go.Proofs.Ytdhjmeoppmpilaa
