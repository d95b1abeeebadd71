/-
  Which devices may be.
-/
import Derived.Test.YtpimbaphenignaaVr
import Derived.Test.YtpimbaphenignaaAr
namespace Go.Proofs.Ytpimbaphenignaa
open Go Go.Sl Go.IntWalk
set_option maxHeartbeats 8000000
set_option maxRecDepth 20000
set_option linter.unusedVariables false
theorem new_read {k : Nat} (h : 1 ≤ k) : (Dv.new k).read ((k : Int) - 1) = (List.replicate 16 0, 0) := by
  have h1 : ((k : Int) - 1).toNat = k - 1 := by omega
  unfold Dv.read
  rw [if_pos (by unfold Dv.in_ Dv.new; simp; omega), if_pos (by unfold Dv.late Dv.new; simp only [h1]; rw [List.getD_eq_getElem?_getD, List.getElem?_replicate, if_pos (by omega)]; rfl)]
  have : (Dv.new k).last ((k : Int) - 1) = zcell := by unfold Dv.last Dv.new; simp only [h1]; rw [List.getD_eq_getElem?_getD, List.getElem?_replicate, if_pos (by omega)]; rfl
  rw [this]
  exact cOpen_z
theorem new_read2 {k : Nat} : (Dv.new k).read (k : Int) = ([], 4) := by
  unfold Dv.read
  rw [if_neg (by unfold Dv.in_ Dv.new; simp)]
theorem DeviceNews_spec (n : Int) (hn : i64s n) : Ctr Try.prog 4 [.int .i64 n] [] [] (fun v L' => v = .bool true ∧ L' = []) := by
  have rn := around_range n 1027 (by decide)
  have hA := Around_spec n 1027 hn (by decide)
  have e16 : repL 16 [Value.int .u8 0] = u8s (List.replicate 16 0) := rfl
  generalize around n 1027 = m at *
  refine Ctr.enter (n := 108) [.tmp 2] [(0, _)] Try.func4 rfl rfl rfl (lb rfl) Try.call4 ⟨rfl, trivial⟩ ?_
  intro cx fin fin0
  refine aG ?_
  repeat (first | refine gx ?_ | refine gN fun _ => ?_ | refine gB fun _ => ?_ | fail)
  refine aC (o := hA) (h := ?_) (hro := RoIn.nil)
  rintro _ _ ⟨rfl, rfl⟩
  refine aG ?_
  refine aSl (ps := [_, _]) ?_
  intro bs
  refine aG ?_
  repeat (first | refine gx ?_ | refine gN fun _ => ?_ | refine gB fun _ => ?_ | fail)
  refine aLp (fun q ρ1 L1 => ∃ (i : Nat), i ≤ 2 ∧ q = 2 - i ∧ ρ1 = [(4, .int .i64 (i : Int)), (3, .slice (some ⟨bs, 0, none⟩) 2 2)] ∧ L1 = [[(bs, .cells (List.toArray [.int .i64 n, .int .i64 m]) 3 (0, 0))]]) (o := ⟨0, by decide, rfl, rfl, rfl⟩) (h := ?_)
  rintro q ρ1 L1 ⟨i, hi, rfl, rfl, rfl⟩
  refine aG ?_
  by_cases hlt : i < 2
  · have hz : (i : Int) < 2 := by omega
    obtain ⟨x, hx, l0⟩ : ∃ x, i64s x ∧ ([.int .i64 n, .int .i64 m] : List Value)[0 + i * 1]? = some (.int .i64 x) := by
      rcases (show i = 0 ∨ i = 1 by omega) with rfl | rfl
      · exact ⟨n, hn, rfl⟩
      · exact ⟨m, ⟨by omega, by omega⟩, rfl⟩
    have hN := DNew_spec x
    generalize hlx : ([.int .i64 n, .int .i64 m] : List Value) = lx at *
    repeat (first | refine gh hz ?_ | refine gN fun _ => ?_ | refine gB fun _ => ?_ | fail)
    refine aV (OpVal.ixI tab_ok rfl rfl rfl rfl rfl hlt) ?_
    refine aV (OpVal.load tab_ok rfl (at_own 0 rfl) l0) ?_
    refine aC (o := hN) (h := ?_)
    rintro _ _ (⟨h, rfl, rfl⟩ | ⟨hin, b, H, rfl, rfl, h0⟩)
    · refine aG ?_
      repeat (first | refine gx ?_ | refine gN fun _ => ?_ | refine gB fun _ => ?_ | fail)
      refine aV (OpVal.ixI tab_ok rfl rfl rfl rfl rfl hlt) ?_
      refine aV (OpVal.load tab_ok rfl (at_own 0 rfl) l0) ?_
      by_cases h1 : x ≥ 1
      case' pos =>
        have h2 : ¬ x ≤ 1024 := fun h2 => h ⟨h1, h2⟩
        repeat (first | refine gh h1 ?_ | refine gN fun _ => ?_ | refine gB fun _ => ?_ | fail)
        refine aV (OpVal.ixI tab_ok rfl rfl rfl rfl rfl hlt) ?_
        repeat (first | refine gh h1 ?_ | refine gN fun _ => ?_ | refine gB fun _ => ?_ | fail)
        refine aV (OpVal.load tab_ok rfl (at_own 0 rfl) l0) ?_
        repeat (first | refine gh (gc2 h1 h2) ?_ | refine gN fun _ => ?_ | refine gB fun _ => ?_ | fail)
        subst hlx
        refine aR (o := ⟨2 - (i + 1), by omega, i + 1, by omega, rfl, rfl, rfl⟩)
      case' neg =>
        repeat (first | refine gh h1 ?_ | refine gN fun _ => ?_ | refine gB fun _ => ?_ | fail)
        subst hlx
        refine aR (o := ⟨2 - (i + 1), by omega, i + 1, by omega, rfl, rfl, rfl⟩)
    · obtain ⟨h1, h2⟩ := hin
      obtain ⟨k, rfl⟩ : ∃ k : Nat, x = (k : Int) := ⟨x.toNat, by omega⟩
      rw [Int.toNat_natCast] at h0
      have hok : (Dv.new k).Ok := Dv.new_ok (by omega) (by omega)
      have hR := DRead_spec _ hok b H h0 ((k : Int) - 1)
      have hR2 := DRead_spec _ hok b H h0 (k : Int)
      have hLen := DLen_spec _ b H h0
      have hHe := DHead_spec _ hok b H h0
      rw [new_read (by omega)] at hR
      rw [new_read2] at hR2
      have hl : (Dv.new k).lasts.length = k := by simp [Dv.new]
      rw [hl] at hLen
      have hhd : (Dv.new k).head = [] := rfl
      rw [hhd] at hHe
      have h1' : (k : Int) ≥ 1 := h1
      refine aG ?_
      repeat (first | refine gx ?_ | refine gN fun _ => ?_ | refine gB fun _ => ?_ | fail)
      refine aV (OpVal.ixI tab_ok rfl rfl rfl rfl rfl hlt) ?_
      refine aV (OpVal.load tab_ok rfl (at_own 1 rfl) l0) ?_
      repeat (first | refine gh h1' ?_ | refine gN fun _ => ?_ | refine gB fun _ => ?_ | fail)
      refine aV (OpVal.ixI tab_ok rfl rfl rfl rfl rfl hlt) ?_
      repeat (first | refine gh h1' ?_ | refine gN fun _ => ?_ | refine gB fun _ => ?_ | fail)
      refine aV (OpVal.load tab_ok rfl (at_own 1 rfl) l0) ?_
      repeat (first | refine gh (gc2 h1' h2) ?_ | refine gN fun _ => ?_ | refine gB fun _ => ?_ | fail)
      refine aV (OpVal.ixI tab_ok rfl rfl rfl rfl rfl hlt) ?_
      refine aV (OpVal.load tab_ok rfl (at_own 1 rfl) l0) ?_
      repeat (first | refine gx ?_ | refine gN fun _ => ?_ | refine gB fun _ => ?_ | fail)
      refine aC (o := hR) (h := ?_) (hro := RoIn.own 0 rfl)
      rintro _ _ ⟨a1, c1, H1, rfl, rfl, ho1⟩
      refine aG ?_
      repeat (first | refine gx ?_ | refine gN fun _ => ?_ | refine gB fun _ => ?_ | fail)
      refine aV (OpVal.ixI tab_ok rfl rfl rfl rfl rfl hlt) ?_
      refine aV (OpVal.load tab_ok rfl (at_own 2 rfl) l0) ?_
      repeat (first | refine gx ?_ | refine gN fun _ => ?_ | refine gB fun _ => ?_ | fail)
      refine aC (o := hR2) (h := ?_) (hro := RoIn.own 1 rfl)
      rintro _ _ ⟨a2, c2, H2, rfl, rfl, ho2⟩
      refine aG ?_
      repeat (first | refine gx ?_ | refine gN fun _ => ?_ | refine gB fun _ => ?_ | fail)
      have hkk : ¬ (k : Int) ≠ (k : Int) := fun h => h rfl
      refine W.drawH tab_ok 28 [.b false, .b false, .b false, .b false, .b false, .b true, .b true, .b false, .b false, .b false, .b false, .b false, .b false, .b false, .b false, .b false, .b false, .b false, .b false, .b false, .b false, .b false, .b false, .b false, .b true, .b false, .b false, .b false] [] follows (by decide +kernel) (by decide +kernel) rfl (by decide) rfl ?_
      intro _
      refine dG ?_
      repeat (first | refine dL ?_ | refine dS ?_ | (first | refine dGo ?_ | refine dSk ?_ | refine dUn ?_ | fail) | (first | refine dPT ?_ | refine dPF ?_ | fail) | refine dV (OpVal.add rfl rfl (i64_in _ (by omega))) ?_ | refine dV (OpVal.sub rfl rfl (i64_in _ (by omega))) ?_ | refine dV (OpVal.neBool tab_ok rfl rfl rfl) ?_ | refine dV (OpVal.eqBool tab_ok rfl rfl rfl) ?_ | refine dV (OpVal.eqNil tab_ok rfl rfl rfl) ?_ | refine dV (OpVal.neNil tab_ok rfl rfl rfl) ?_ | fail)
      refine dGo ?_ (hw := by simp) (o := OpVal.bytesStr tab_ok rfl rfl rfl rfl (Own.roSl ho1) (fun q hq => .inr (by simp [hq])))
      refine WD.guardGoNew rfl rfl rfl (NewOf.mks (bytes := 1) (len := 16) (cap := 16) tab_ok rfl rfl rfl rfl rfl rfl rfl rfl rfl (Nat.le_refl _) (by decide) (by decide)) (lb rfl) ?_
      intro b4
      rw [e16]
      refine dG ?_
      refine dVg (OpVal.bytesStr (bs := List.replicate 16 0) tab_ok rfl rfl rfl rfl ⟨rfl, .inr ⟨b4, 0, u8s (List.replicate 16 0), _, _, rfl, rfl, by decide, rfl⟩⟩ (fun q hq => .inl (by rw [List.mem_singleton.1 hq]; exact List.mem_append_left _ (List.mem_singleton.2 rfl)))) ?_
      refine dGo ?_ (hw := by simp) (o := OpVal.neStr rfl rfl)
      repeat (first | refine dL ?_ | refine dS ?_ | (first | refine dGo ?_ | refine dSk ?_ | refine dUn ?_ | fail) | (first | refine dPT ?_ | refine dPF ?_ | fail) | refine dV (OpVal.add rfl rfl (i64_in _ (by omega))) ?_ | refine dV (OpVal.sub rfl rfl (i64_in _ (by omega))) ?_ | refine dV (OpVal.neBool tab_ok rfl rfl rfl) ?_ | refine dV (OpVal.eqBool tab_ok rfl rfl rfl) ?_ | refine dV (OpVal.eqNil tab_ok rfl rfl rfl) ?_ | refine dV (OpVal.neNil tab_ok rfl rfl rfl) ?_ | fail)
      refine dQg (o := hLen) (h := ?_) (hro := fun q hq => by simp [hq])
      repeat (first | refine dL ?_ | refine dS ?_ | (first | refine dGo ?_ | refine dSk ?_ | refine dUn ?_ | fail) | (first | refine dPT ?_ | refine dPF ?_ | fail) | refine dV (OpVal.add rfl rfl (i64_in _ (by omega))) ?_ | refine dV (OpVal.sub rfl rfl (i64_in _ (by omega))) ?_ | refine dV (OpVal.neBool tab_ok rfl rfl rfl) ?_ | refine dV (OpVal.eqBool tab_ok rfl rfl rfl) ?_ | refine dV (OpVal.eqNil tab_ok rfl rfl rfl) ?_ | refine dV (OpVal.neNil tab_ok rfl rfl rfl) ?_ | fail)
      refine dGo ?_ (hw := by simp) (o := OpVal.ixI tab_ok rfl rfl rfl rfl rfl hlt)
      refine dGo ?_ (hw := by simp) (o := OpVal.load tab_ok rfl (show At _ _ bs (.cells lx.toArray 3 (0, 0)) from .inr (by simp)) l0)
      repeat (first | refine dL ?_ | refine dS ?_ | (first | refine dGo ?_ | refine dSk ?_ | refine dUn ?_ | refine dGo ?_ (hw := by exact gd hkk) | refine dSk ?_ (hw := by exact gd hkk) | fail) | (first | refine dPT ?_ | refine dPF ?_ | refine dPT ?_ (hb := by exact gd hkk) | refine dPF ?_ (hb := by exact gd hkk) | fail) | refine dV (OpVal.add rfl rfl (i64_in _ (by omega))) ?_ | refine dV (OpVal.sub rfl rfl (i64_in _ (by omega))) ?_ | refine dV (OpVal.neBool tab_ok rfl rfl rfl) ?_ | refine dV (OpVal.eqBool tab_ok rfl rfl rfl) ?_ | refine dV (OpVal.eqNil tab_ok rfl rfl rfl) ?_ | refine dV (OpVal.neNil tab_ok rfl rfl rfl) ?_ | fail)
      refine dCG (o := hHe) (h := ?_) (hw := by simp) (hro := RoIn.all fun q hq => by simp [hq])
      rintro _ _ ⟨ah, chh, Hh, rfl, rfl, hoh⟩
      refine dG ?_
      repeat (first | refine dL ?_ | refine dS ?_ | (first | refine dGo ?_ | refine dSk ?_ | refine dUn ?_ | fail) | (first | refine dPT ?_ | refine dPF ?_ | fail) | refine dV (OpVal.add rfl rfl (i64_in _ (by omega))) ?_ | refine dV (OpVal.sub rfl rfl (i64_in _ (by omega))) ?_ | refine dV (OpVal.neBool tab_ok rfl rfl rfl) ?_ | refine dV (OpVal.eqBool tab_ok rfl rfl rfl) ?_ | refine dV (OpVal.eqNil tab_ok rfl rfl rfl) ?_ | refine dV (OpVal.neNil tab_ok rfl rfl rfl) ?_ | fail)
      refine WD.nil (W.dropNil (aG ?_))
      repeat (first | refine gx ?_ | refine gN fun _ => ?_ | refine gB fun _ => ?_ | fail)
      subst hlx
      refine aR (o := ⟨2 - (i + 1), by omega, i + 1, by omega, rfl, rfl, rfl⟩)
  · have hz : ¬ (i : Int) < 2 := by omega
    repeat (first | refine gh hz ?_ | refine gN fun _ => ?_ | refine gB fun _ => ?_ | fail)
    refine W.order [0] rfl ?_
    refine aC (o := Lives_spec) (h := ?_) (hro := RoIn.nil)
    rintro _ _ ⟨rfl, rfl⟩
    refine aG ?_
    repeat (first | refine gx ?_ | refine gN fun _ => ?_ | refine gB fun _ => ?_ | fail)
    refine W.ret (fin _ _ (FinOk.mk' ([]) (.tmp rfl .nil) (by repeat (first | exact Sel.nil | (apply Sel.cons; (repeat (first | exact Pick.here | apply Pick.there))))) rfl ?_))
    exact ⟨rfl, rfl⟩
end Go.Proofs.Ytpimbaphenignaa
