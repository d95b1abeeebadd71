/-
  Whatever is done: the device is the document's.
-/
import Derived.Test.YtpimbaphenignaaVt
namespace Go.Proofs.Ytpimbaphenignaa
open Go Go.Sl Go.IntWalk
set_option maxHeartbeats 8000000
set_option maxRecDepth 20000
set_option linter.unusedVariables false
theorem DevicePlays_spec (n : Int) (hn : i64s n) (os : List OD) (hos : ∀ o ∈ os, OD.Ok o) (ao : Option Addr) (co : Nat) (roo : HL) (hroo : RoSl 5 (os.flatMap OD.l) ao os.length roo) :
    Ctr Try.prog 8 [.int .i64 n, .slice ao os.length co] [] (roo ++ ros os) (fun v L' => v = .bool true ∧ L' = []) := by
  have rn := around_range n 6 (by decide)
  obtain ⟨kk, hkk⟩ : ∃ kk : Nat, 1 + around n 6 = (kk : Int) := ⟨(1 + around n 6).toNat, by omega⟩
  have hk1 : 1 ≤ kk := by omega
  have hk6 : kk ≤ 6 := by omega
  have hA := Around_spec n 6 hn (by decide)
  have hN := DNew_spec (kk : Int)
  have hN2 := RNew_spec kk (by omega)
  refine Ctr.enter (n := 58) [.tmp 4] [(0, _), (1, _)] Try.func8 rfl rfl rfl (lb rfl) Try.call8 ⟨rfl, rfl, trivial⟩ ?_
  intro cx fin fin0
  refine aG ?_
  repeat (first | refine gx ?_ | refine gN fun _ => ?_ | refine gB fun _ => ?_ | fail)
  refine aC (o := hA) (h := ?_) (hro := RoIn.nil)
  rintro _ _ ⟨rfl, rfl⟩
  refine aG ?_
  repeat (first | refine gx ?_ | refine gN fun _ => ?_ | refine gB fun _ => ?_ | fail)
  rw [hkk]
  refine aC (o := hN) (h := ?_)
  rintro _ _ (⟨h, rfl, rfl⟩ | ⟨_, b, H, rfl, rfl, h0⟩)
  · exact absurd (by omega) h
  rw [Int.toNat_natCast] at h0
  have i0 : (Dv.new kk).Ok := Dv.new_ok hk1 (by omega)
  refine aG ?_
  repeat (first | refine gx ?_ | refine gN fun _ => ?_ | refine gB fun _ => ?_ | fail)
  refine aC (o := hN2) (h := ?_)
  rintro _ _ ⟨HD, rfl, a0, c0, at0, ct0, ah0, ch0, rfl, g2, g3, g4⟩
  refine aG ?_
  repeat (first | refine gx ?_ | refine gN fun _ => ?_ | refine gB fun _ => ?_ | fail)
  rename_i b8
  refine aLp (fun m ρ1 L1 => ∃ (i : Nat) (d : Dv) (a : Option Addr) (c : Nat) (at_ : Option Addr) (ct : Nat) (ah : Option Addr) (ch : Nat) (H HD : HL), i ≤ 16 ∧ d.Ok ∧ DevAt d b H ∧ ListIn HD d.lasts a ∧ ListIn HD d.later at_ ∧ ClIn HD ⟨ah, ch, d.head⟩ ∧ m = 16 - i ∧ ρ1 = [(9, .int .i64 (i : Int)), (6, .pointer (some ⟨b, 0, none⟩)), (8, .pointer (some ⟨b8, 0, none⟩)), (1, .slice ao os.length co)] ∧ L1 = [[(b8, Obj.cells (List.toArray [.slice a d.lasts.length c, .slice at_ d.later.length ct, .slice ah d.head.length ch]) 53 (0, 0))], H, HD]) (o := ⟨0, Dv.new kk, a0, c0, at0, ct0, ah0, ch0, H, HD, by decide, i0, h0, by simpa using g2, by simpa using g3, by simpa using g4, rfl, rfl, rfl⟩) (h := ?_)
  clear g2 g3 g4 i0 h0
  rintro m ρ1 L1 ⟨i, d, a, c, at_, ct, ah, ch, H, HD, hi16, hd, h, g2, g3, g4, rfl, rfl, rfl⟩
  refine aG ?_
  by_cases hc : ((i : Int) < (os.length : Int)) ∧ (i : Int) < 16
  · obtain ⟨hc1, hc2⟩ := hc
    have hil : i < os.length := by omega
    obtain ⟨bx, ox, lx, ex, frx, rfl, rfl, hseg, hld⟩ := RoSl.at (f := OD.l) (m := 5) (fun _ => rfl) hroo hil
    have hO := hos _ (List.getElem_mem hil)
    have hmem : ∀ q ∈ os[i].ro_, q ∈ ros os := fun q hq => List.mem_flatMap.2 ⟨_, List.getElem_mem hil, hq⟩
    have hD := does_spec d hd b H h _ HD ⟨a, c, at_, ct, ah, ch, rfl, g2, g3, g4⟩ os[i] hO
    have hd2 := doO_ok hd hO
    generalize os[i] = o at hseg hO hmem hD hd2
    repeat (first | refine gx ?_ | refine gN fun _ => ?_ | refine gB fun _ => ?_ | fail)
    refine W.drawG tab_ok 11 13 [.b false, .b false, .b false, .b false, .b false, .b false, .b true, .b false, .b false, .b false, .f] [.b true, .b false] [1] follows (by decide) rfl (by decide +kernel) (by decide +kernel) (by decide) (by decide +kernel) rfl (by decide) rfl ?_
    intro _
    refine dG ?_
    repeat (first | refine dL ?_ | refine dS ?_ | (first | refine dGo ?_ | refine dSk ?_ | refine dUn ?_ | fail) | (first | refine dPT ?_ | refine dPF ?_ | fail) | refine dV (OpVal.add rfl rfl (i64_in _ (by omega))) ?_ | refine dV (OpVal.sub rfl rfl (i64_in _ (by omega))) ?_ | refine dV (OpVal.neBool tab_ok rfl rfl rfl) ?_ | refine dV (OpVal.eqBool tab_ok rfl rfl rfl) ?_ | refine dV (OpVal.eqNil tab_ok rfl rfl rfl) ?_ | refine dV (OpVal.neNil tab_ok rfl rfl rfl) ?_ | fail)
    refine dV (OpVal.ixSl tab_ok rfl rfl rfl rfl rfl hil) ?_
    refine dV (OpVal.loadN ty_32.1 ty_32.2 rfl (show At _ _ bx (.cells lx.toArray ex frx) from .inr (by simp)) hseg) ?_
    refine dC (o := hD) (h := ?_) (hro := (fun q hq => .inr ((List.mem_append.1 hq).elim (fun h => by simp [h]) (fun h => by simp [hmem q h]))))
    rintro _ _ ⟨H2, Hd2, v1, rfl, rfl, hp2, a3, c3, at3, ct3, ah3, ch3, rfl, g5, g6, g7⟩
    refine dG ?_
    refine WD.float tab_ok rfl rfl (lb rfl) (dG ?_)
    refine WD.nil ?_
    intro _ _ _ e; cases e
    refine dG ?_
    repeat (first | refine dL ?_ | refine dS ?_ | (first | refine dGo ?_ | refine dSk ?_ | refine dUn ?_ | fail) | (first | refine dPT ?_ | refine dPF ?_ | fail) | refine dV (OpVal.add rfl rfl (i64_in _ (by omega))) ?_ | refine dV (OpVal.sub rfl rfl (i64_in _ (by omega))) ?_ | refine dV (OpVal.neBool tab_ok rfl rfl rfl) ?_ | refine dV (OpVal.eqBool tab_ok rfl rfl rfl) ?_ | refine dV (OpVal.eqNil tab_ok rfl rfl rfl) ?_ | refine dV (OpVal.neNil tab_ok rfl rfl rfl) ?_ | fail)
    refine WD.nil (W.dropNil (aG ?_))
    repeat (first | refine gx ?_ | refine gN fun _ => ?_ | refine gB fun _ => ?_ | fail)
    refine W.groupV [2, 3] rfl ?_
    have hLk := Like_spec _ hd2 b H2 hp2 _ (Hd2 ++ HD) ⟨a3, c3, at3, ct3, ah3, ch3, rfl, g5, g6, g7⟩
    refine aC (o := hLk) (h := ?_) (hro := RoIn.own 0 rfl)
    rintro _ _ ⟨H3, rfl, rfl, hp3⟩
    refine aG ?_
    repeat (first | refine gx ?_ | refine gN fun _ => ?_ | refine gB fun _ => ?_ | fail)
    refine aR (o := ⟨16 - (i + 1), by omega, i + 1, _, a3, c3, at3, ct3, ah3, ch3, H3, Hd2 ++ HD, by omega, hd2, hp3, g5, g6, g7, rfl, rfl, rfl⟩)
  · rcases (show ¬ ((i : Int) < (os.length : Int)) ∨ (((i : Int) < (os.length : Int)) ∧ ¬ (i : Int) < 16) by omega) with hx | ⟨hx1, hx2⟩
    all_goals
      repeat (first | refine gx ?_ | refine gN fun _ => ?_ | refine gB fun _ => ?_ | fail)
      refine W.order [0] rfl ?_
      refine aC (o := Lives_spec) (h := ?_) (hro := RoIn.nil)
      rintro _ _ ⟨rfl, rfl⟩
      refine aG ?_
      repeat (first | refine gx ?_ | refine gN fun _ => ?_ | refine gB fun _ => ?_ | fail)
      refine W.ret (fin _ _ (FinOk.mk' ([]) (.tmp rfl .nil) (by repeat (first | exact Sel.nil | (apply Sel.cons; (repeat (first | exact Pick.here | apply Pick.there))))) rfl ?_))
      exact ⟨rfl, rfl⟩
end Go.Proofs.Ytpimbaphenignaa
