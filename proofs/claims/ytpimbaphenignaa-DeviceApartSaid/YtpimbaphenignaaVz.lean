/-
  What is done to a range changes nothing of other sectors.
-/
import Derived.Test.YtpimbaphenignaaVy
namespace Go.Proofs.Ytpimbaphenignaa
open Go Go.Sl Go.IntWalk
set_option maxHeartbeats 8000000
set_option maxRecDepth 20000
set_option linter.unusedVariables false
theorem doO_len {d : Dv} (hd : d.Ok) (o : OD) : (d.doO o).lasts.length = d.lasts.length := by
  unfold Dv.doO
  split
  · exact (settled allB (d, ()) hd _ _ _ rfl).2.2
  · split
    · exact (settled nextB (d, _) hd _ _ _ rfl).2.2
    · split
      · unfold Dv.turn; split
        · simp [Dv.setLast]
        · rfl
      · split
        · rfl
        · unfold Dv.write; split
          · split <;> rfl
          · rfl
theorem DeviceApart_spec (os : List OD) (hos : ∀ o ∈ os, OD.Ok o) (ao : Option Addr) (co : Nat) (roo : HL) (hroo : RoSl 5 (os.flatMap OD.l) ao os.length roo) (f0 t0 : Int) (hf0 : i64s f0) (ht0 : i64s t0) (cr : Bool)
    (keep : List Bool) (hkl : keep.length ≤ 140737488351232) (ak : Option Addr) (ck : Nat) (rk : HL) (hrk : RoSl 1 (bls keep) ak keep.length rk) :
    Ctr Try.prog 7 [.slice ao os.length co, .int .i64 f0, .int .i64 t0, .bool cr, .slice ak keep.length ck] [] (roo ++ (ros os ++ rk)) (fun v L' => v = .bool true ∧ L' = []) := by
  have hN := DNew_spec 8
  have hN2 := RNew_spec 8 (by decide)
  have hA1 := Around_spec f0 9 hf0 (by decide)
  have hA2 := Around_spec t0 9 ht0 (by decide)
  have r1 := around_range f0 9 (by decide)
  have r2 := around_range t0 9 (by decide)
  generalize around f0 9 = fr at *
  generalize around t0 9 = to at *
  have hS := SNew_spec keep hkl ak ck rk hrk
  have hrkm : ∀ q ∈ rk, q ∈ roo ++ (ros os ++ rk) := fun q hq => by simp [hq]
  generalize hg : (rk : HL) = rk2 at hS hrkm
  have hrs : ∀ q ∈ ros os, q ∈ roo ++ (ros os ++ rk) := fun q hq => by simp [hq]
  subst hg
  refine Ctr.enter (n := 146) [.tmp 10] [(0, _), (1, _), (2, _), (3, _), (4, _)] Try.func7 rfl rfl rfl (lb rfl) Try.call7 ⟨rfl, rfl, rfl, rfl, rfl, trivial⟩ ?_
  intro cx fin fin0
  refine aG ?_
  repeat (first | refine gx ?_ | refine gN fun _ => ?_ | refine gB fun _ => ?_ | fail)
  refine aC (o := hN) (h := ?_)
  rintro _ _ (⟨h, rfl, rfl⟩ | ⟨_, b, H, rfl, rfl, h0⟩)
  · exact absurd (by omega) h
  have i0 : (Dv.new 8).Ok := Dv.new_ok (by decide) (by decide)
  refine aG ?_
  repeat (first | refine gx ?_ | refine gN fun _ => ?_ | refine gB fun _ => ?_ | fail)
  refine aC (o := hN2) (h := ?_)
  rintro _ _ ⟨HD, rfl, a0, c0, at0, ct0, ah0, ch0, rfl, g2, g3, g4⟩
  refine aG ?_
  repeat (first | refine gx ?_ | refine gN fun _ => ?_ | refine gB fun _ => ?_ | fail)
  rename_i b13
  refine aLp (fun m ρ1 L1 => ∃ (i : Nat) (d : Dv) (a : Option Addr) (c : Nat) (at_ : Option Addr) (ct : Nat) (ah : Option Addr) (ch : Nat) (H HD : HL), i ≤ 10 ∧ d.Ok ∧ d.lasts.length = 8 ∧ DevAt d b H ∧ ListIn HD d.lasts a ∧ ListIn HD d.later at_ ∧ ClIn HD ⟨ah, ch, d.head⟩ ∧ m = 10 - i ∧ ρ1 = [(14, .int .i64 (i : Int)), (11, .pointer (some ⟨b, 0, none⟩)), (13, .pointer (some ⟨b13, 0, none⟩)), (0, .slice ao os.length co), (1, .int .i64 f0), (2, .int .i64 t0), (3, .bool cr), (4, .slice ak keep.length ck)] ∧ L1 = [[(b13, Obj.cells (List.toArray [.slice a d.lasts.length c, .slice at_ d.later.length ct, .slice ah d.head.length ch]) 53 (0, 0))], H, HD]) (o := ⟨0, Dv.new 8, a0, c0, at0, ct0, ah0, ch0, H, HD, by decide, i0, rfl, h0, by simpa using g2, by simpa using g3, by simpa using g4, rfl, rfl, rfl⟩) (h := ?_)
  clear g2 g3 g4 i0 h0
  rintro m ρ1 L1 ⟨i, d, a, c, at_, ct, ah, ch, H, HD, hi16, hd, h8, h, g2, g3, g4, rfl, rfl, rfl⟩
  refine aG ?_
  by_cases hc : ((i : Int) < (os.length : Int)) ∧ (i : Int) < 10
  · obtain ⟨hc1, hc2⟩ := hc
    have hil : i < os.length := by omega
    obtain ⟨bx, ox, lx, ex, frx, rfl, rfl, hseg, hld⟩ := RoSl.at (f := OD.l) (m := 5) (fun _ => rfl) hroo hil
    have hO := hos _ (List.getElem_mem hil)
    have hmem : ∀ q ∈ os[i].ro_, q ∈ ros os := fun q hq => List.mem_flatMap.2 ⟨_, List.getElem_mem hil, hq⟩
    have hD := does_spec d hd b H h _ HD ⟨a, c, at_, ct, ah, ch, rfl, g2, g3, g4⟩ os[i] hO
    have hd2 := doO_ok hd hO
    have hd8 := doO_len hd os[i]
    rw [h8] at hd8
    generalize os[i] = o at hseg hO hmem hD hd2 hd8
    repeat (first | refine gx ?_ | refine gN fun _ => ?_ | refine gB fun _ => ?_ | fail)
    refine W.drawG tab_ok 11 13 [.b false, .b false, .b false, .b false, .b false, .b false, .b true, .b false, .b false, .b false, .f] [.b true, .b false] [1] follows (by decide) rfl (by decide +kernel) (by decide +kernel) (by decide) (by decide +kernel) rfl (by decide) rfl ?_
    intro _
    refine dG ?_
    repeat (first | refine dL ?_ | refine dS ?_ | (first | refine dGo ?_ | refine dSk ?_ | refine dUn ?_ | fail) | (first | refine dPT ?_ | refine dPF ?_ | fail) | refine dV (OpVal.add rfl rfl (i64_in _ (by omega))) ?_ | refine dV (OpVal.sub rfl rfl (i64_in _ (by omega))) ?_ | refine dV (OpVal.neBool tab_ok rfl rfl rfl) ?_ | refine dV (OpVal.eqBool tab_ok rfl rfl rfl) ?_ | refine dV (OpVal.eqNil tab_ok rfl rfl rfl) ?_ | refine dV (OpVal.neNil tab_ok rfl rfl rfl) ?_ | fail)
    refine dV (OpVal.ixSl tab_ok rfl rfl rfl rfl rfl hil) ?_
    refine dV (OpVal.loadN ty_32.1 ty_32.2 rfl (show At _ _ bx (.cells lx.toArray ex frx) from .inr (by simp)) hseg) ?_
    refine dC (o := hD) (h := ?_) (hro := (fun q hq => .inr ((List.mem_append.1 hq).elim (fun h => by simp [h]) (fun h => by simp [hmem q h]))))
    rintro _ _ ⟨H2, Hd2, v1, rfl, rfl, hp2, a3, c3, at3, ct3, ah3, ch3, rfl, g5, g6, g7⟩
    refine dG ?_
    refine WD.float tab_ok rfl rfl (lb rfl) (dG ?_)
    refine WD.nil ?_
    intro _ _ _ e; cases e
    refine dG ?_
    repeat (first | refine dL ?_ | refine dS ?_ | (first | refine dGo ?_ | refine dSk ?_ | refine dUn ?_ | fail) | (first | refine dPT ?_ | refine dPF ?_ | fail) | refine dV (OpVal.add rfl rfl (i64_in _ (by omega))) ?_ | refine dV (OpVal.sub rfl rfl (i64_in _ (by omega))) ?_ | refine dV (OpVal.neBool tab_ok rfl rfl rfl) ?_ | refine dV (OpVal.eqBool tab_ok rfl rfl rfl) ?_ | refine dV (OpVal.eqNil tab_ok rfl rfl rfl) ?_ | refine dV (OpVal.neNil tab_ok rfl rfl rfl) ?_ | fail)
    refine WD.nil (W.dropNil (aG ?_))
    repeat (first | refine gx ?_ | refine gN fun _ => ?_ | refine gB fun _ => ?_ | fail)
    refine W.groupV [2, 3] rfl ?_
    refine aR (o := ⟨10 - (i + 1), by omega, i + 1, _, a3, c3, at3, ct3, ah3, ch3, H2, Hd2 ++ HD, by omega, hd2, hd8, hp2, g5, g6, g7, rfl, rfl, rfl⟩)
  · have hC := fun bs Hs hs => DCrash_spec d hd b H h fr to keep bs Hs hs
    have hB := DBarrier_spec d hd b H h fr to
    rcases (show ¬ ((i : Int) < (os.length : Int)) ∨ (((i : Int) < (os.length : Int)) ∧ ¬ (i : Int) < 10) by omega) with hx | ⟨hx1, hx2⟩
    all_goals
      repeat (first | refine gx ?_ | refine gN fun _ => ?_ | refine gB fun _ => ?_ | fail)
      refine aC (o := hA1) (h := ?_) (hro := RoIn.nil)
      rintro _ _ ⟨rfl, rfl⟩
      refine aG ?_
      repeat (first | refine gx ?_ | refine gN fun _ => ?_ | refine gB fun _ => ?_ | fail)
      refine aC (o := hA2) (h := ?_) (hro := RoIn.nil)
      rintro _ _ ⟨rfl, rfl⟩
      refine aG ?_
      repeat (first | refine gx ?_ | refine gN fun _ => ?_ | refine gB fun _ => ?_ | fail)
      refine aC (o := hS) (h := ?_) (hro := RoIn.all (fun q hq => hrkm q hq))
      rintro _ _ ⟨bs, Hs, rfl, rfl, hst⟩
      refine aG ?_
      repeat (first | refine gx ?_ | refine gN fun _ => ?_ | refine gB fun _ => ?_ | fail)
      cases cr
      case' true =>
        repeat (first | refine gx ?_ | refine gN fun _ => ?_ | refine gB fun _ => ?_ | fail)
        refine aC (o := hC bs Hs hst) (h := ?_)
        rintro _ _ ⟨H2, Hs2, rfl, hdv, hst2⟩
        refine aG ?_
        repeat (first | refine gx ?_ | refine gN fun _ => ?_ | refine gB fun _ => ?_ | fail)
        obtain ⟨hq, hq2, hq3⟩ := settled nextB (d, keep) hd fr to _ rfl
        have hok := crash_ok hd fr to keep
        unfold Dv.crash at hdv hok
        generalize (settle nextB (d, keep) (Dv.laterIn (d, keep).1 fr to)).1 = D at *
        refine W.order [0, 1, 1] rfl ?_
      case' false =>
        repeat (first | refine gx ?_ | refine gN fun _ => ?_ | refine gB fun _ => ?_ | fail)
        refine aC (o := hB) (h := ?_)
        rintro _ _ ⟨H2, rfl, hdv⟩
        refine aG ?_
        repeat (first | refine gx ?_ | refine gN fun _ => ?_ | refine gB fun _ => ?_ | fail)
        obtain ⟨hq, hq2, hq3⟩ := settled allB (d, ()) hd fr to _ rfl
        have hok := barrier_ok hd fr to
        unfold Dv.barrier at hdv hok
        generalize (settle allB (d, ()) (Dv.laterIn (d, ()).1 fr to)).1 = D at *
        refine W.order [0, 1, 1] rfl ?_
      all_goals
        simp only at hq hq3
        have hLa := DLater_spec D hok b H2 hdv fr to
        rw [hq2] at hLa
        have hR := fun j => DRead_spec D hok b H2 hdv j
        have hL := fun j => DLasting_spec D hok b H2 hdv j
        have hR2 := fun j => RRead_spec d hd _ HD ⟨a, c, at_, ct, ah, ch, rfl, g2, g3, g4⟩ j
        have hL2 := fun j => RLasting_spec d hd _ HD ⟨a, c, at_, ct, ah, ch, rfl, g2, g3, g4⟩ j
        refine aLp (fun m ρ1 L1 => ∃ (j : Nat), j ≤ 8 ∧ m = 8 - j ∧ ρ1 = [(20, .int .i64 (j : Int)), (17, .int .i64 fr), (18, .int .i64 to), (11, .pointer (some ⟨b, 0, none⟩)), (13, .pointer (some ⟨b13, 0, none⟩))] ∧ L1 = [H2, [(b13, Obj.cells (List.toArray [.slice a d.lasts.length c, .slice at_ d.later.length ct, .slice ah d.head.length ch]) 53 (0, 0))], HD]) (o := ⟨0, by decide, rfl, rfl, rfl⟩) (h := ?_)
        rintro m ρ1 L1 ⟨j, hj8, rfl, rfl, rfl⟩
        refine aG ?_
        by_cases hj : (j : Int) < 8
        · by_cases k1 : (j : Int) ≥ fr
          case' pos =>
            by_cases k2 : (j : Int) < to
            case' pos =>
              repeat (first | refine gh (gc3 hj k1 k2) ?_ | refine gN fun _ => ?_ | refine gB fun _ => ?_ | fail)
              refine aR (o := ⟨8 - (j + 1), by omega, j + 1, by omega, rfl, rfl, rfl⟩)
            case' neg =>
              obtain ⟨e1, e2⟩ := hq j (by omega) (by omega) (by omega)
              repeat (first | refine gh (gc3 hj k1 k2) ?_ | refine gN fun _ => ?_ | refine gB fun _ => ?_ | fail)
          case' neg =>
            obtain ⟨e1, e2⟩ := hq j (by omega) (by omega) (by omega)
            repeat (first | refine gh (gc2 hj k1) ?_ | refine gN fun _ => ?_ | refine gB fun _ => ?_ | fail)
          all_goals
            have hR := hR j
            have hL := hL j
            have hR2 := hR2 j
            have hL2 := hL2 j
            rw [e1] at hR
            rw [e2] at hL
            generalize d.read (j : Int) = r1 at *
            generalize d.lasting (j : Int) = r2 at *
            have n1 : ¬ r1.2 ≠ r1.2 := fun h => h rfl
            have n2 : ¬ r2.2 ≠ r2.2 := fun h => h rfl
            refine aC (o := hR) (h := ?_) (hro := RoIn.own 0 rfl)
            rintro _ _ ⟨x1, y1, H1, rfl, rfl, ho1⟩
            refine aG ?_
            repeat (first | refine gx ?_ | refine gN fun _ => ?_ | refine gB fun _ => ?_ | fail)
            refine aC (o := hR2) (h := ?_) (hro := RoIn.own 3 rfl)
            rintro _ _ ⟨x2, y2, q2, rfl, rfl, hr2, hs2⟩
            refine aG ?_
            repeat (first | refine gx ?_ | refine gN fun _ => ?_ | refine gB fun _ => ?_ | fail)
            refine aC (o := hL) (h := ?_) (hro := RoIn.own 1 rfl)
            rintro _ _ ⟨x3, y3, H3, rfl, rfl, ho3⟩
            refine aG ?_
            repeat (first | refine gx ?_ | refine gN fun _ => ?_ | refine gB fun _ => ?_ | fail)
            refine aC (o := hL2) (h := ?_) (hro := RoIn.own 4 rfl)
            rintro _ _ ⟨x4, y4, q4, rfl, rfl, hr4, hs4⟩
            refine aG ?_
            repeat (first | refine gh (gc2 n1 n2) ?_ | refine gN fun _ => ?_ | refine gB fun _ => ?_ | fail)
            refine aV (OpVal.bytesStr tab_ok rfl rfl rfl rfl (Own.roSl ho1) (fun q hq => .inl (by simp [hq]))) ?_
            repeat (first | refine gh (gc2 n1 n2) ?_ | refine gN fun _ => ?_ | refine gB fun _ => ?_ | fail)
            refine aV (OpVal.bytesStr tab_ok rfl rfl rfl rfl hr2 (fun q hq => .inl (by simp [hs2 q hq]))) ?_
            repeat (first | refine gh (gc2 n1 n2) ?_ | refine gN fun _ => ?_ | refine gB fun _ => ?_ | fail)
            refine aV (OpVal.neStr rfl rfl) ?_
            repeat (first | refine gh (gc2 n1 n2) ?_ | refine gN fun _ => ?_ | refine gB fun _ => ?_ | fail)
            refine aV (OpVal.bytesStr tab_ok rfl rfl rfl rfl (Own.roSl ho3) (fun q hq => .inl (by simp [hq]))) ?_
            repeat (first | refine gh (gc2 n1 n2) ?_ | refine gN fun _ => ?_ | refine gB fun _ => ?_ | fail)
            refine aV (OpVal.bytesStr tab_ok rfl rfl rfl rfl hr4 (fun q hq => .inl (by simp [hs4 q hq]))) ?_
            repeat (first | refine gh (gc2 n1 n2) ?_ | refine gN fun _ => ?_ | refine gB fun _ => ?_ | fail)
            refine aV (OpVal.neStr rfl rfl) ?_
            repeat (first | refine gh (gc2 n1 n2) ?_ | refine gN fun _ => ?_ | refine gB fun _ => ?_ | fail)
            refine aR (o := ⟨8 - (j + 1), by omega, j + 1, by omega, rfl, rfl, rfl⟩)
        · repeat (first | refine gh hj ?_ | refine gN fun _ => ?_ | refine gB fun _ => ?_ | fail)
          refine aC (o := hLa) (h := ?_)
          rintro _ _ ⟨x5, y5, H5, Hz, rfl, rfl, hdv5, hoz⟩
          refine aG ?_
          repeat (first | refine gx ?_ | refine gN fun _ => ?_ | refine gB fun _ => ?_ | fail)
          refine aC (o := Lives_spec) (h := ?_) (hro := RoIn.nil)
          rintro _ _ ⟨rfl, rfl⟩
          refine aG ?_
          repeat (first | refine gx ?_ | refine gN fun _ => ?_ | refine gB fun _ => ?_ | fail)
          refine W.ret (fin _ _ (FinOk.mk' ([]) (.tmp rfl .nil) (by repeat (first | exact Sel.nil | (apply Sel.cons; (repeat (first | exact Pick.here | apply Pick.there))))) rfl ?_))
          exact ⟨by simp [pack], rfl⟩
end Go.Proofs.Ytpimbaphenignaa
