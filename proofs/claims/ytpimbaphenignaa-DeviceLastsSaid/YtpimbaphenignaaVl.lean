/-
  The device of the document: Write, Later, Barrier, Crash.
-/
import Derived.Test.YtpimbaphenignaaVk
namespace Go.Proofs.Ytpimbaphenignaa
open Go Go.Sl Go.IntWalk
set_option maxHeartbeats 8000000
set_option maxRecDepth 20000
set_option linter.unusedVariables false
/-- What comes of a call: the device, and a number. -/
def DocE (D : HL) (r : Dv × Int) (v : Value) (L' : List HL) : Prop := ∃ v1 H, v = .tuple #[v1, .int .i64 r.2] ∧ L' = [H] ∧ DocD r.1 v1 (H ++ D)
theorem RWrite_spec (d : Dv) (hd : d.Ok) (v : Value) (D : HL) (h : DocD d v D) (i : Int) (bs : List Int) (hu : u8ok bs) (hb : bs.length ≤ 100000) (ab : Option Addr) (cb : Nat) (rb : HL) (hrb : RoSl 1 (u8s bs) ab bs.length rb) :
    Ctr Try.prog 46 [v, .int .i64 i, .slice ab bs.length cb] [] (D ++ rb) (DocE D (d.write i bs)) := by
  obtain ⟨a, c, at_, ct, ah, ch, rfl, h2, h3, h4⟩ := h
  have hop : d.write i bs = d.write i bs := rfl
  conv at hop => rhs; unfold Dv.write
  generalize d.write i bs = out at *
  by_cases h0 : i < 0
  · rw [if_neg (by unfold Dv.in_; omega)] at hop
    subst hop
    refine Ctr.enter (n := 30) [.cell 6 53, .tmp 7] [(0, _), (1, _), (2, _)] Try.func46 rfl rfl rfl (lb rfl) Try.call46 ⟨rfl, rfl, rfl, trivial⟩ ?_
    intro cx fin fin0
    refine aG ?_
    repeat (first | refine gh h0 ?_ | refine gN fun _ => ?_ | refine gB fun _ => ?_ | fail)
    refine W.nilChunk ?_
    refine W.ret (fin _ _ (FinOk.first 1 (aRc (.tmp rfl .nil)) rfl ?_))
    exact ⟨_, [], rfl, rfl, a, c, at_, ct, ah, ch, rfl, h2, h3, h4⟩
  · by_cases h1 : i ≥ (d.lasts.length : Int)
    · rw [if_neg (by unfold Dv.in_; omega)] at hop
      subst hop
      refine Ctr.enter (n := 30) [.cell 6 53, .tmp 7] [(0, _), (1, _), (2, _)] Try.func46 rfl rfl rfl (lb rfl) Try.call46 ⟨rfl, rfl, rfl, trivial⟩ ?_
      intro cx fin fin0
      refine aG ?_
      repeat (first | refine gh (gc2 h0 h1) ?_ | refine gN fun _ => ?_ | refine gB fun _ => ?_ | fail)
      refine W.nilChunk ?_
      refine W.ret (fin _ _ (FinOk.first 1 (aRc (.tmp rfl .nil)) rfl ?_))
      exact ⟨_, [], rfl, rfl, a, c, at_, ct, ah, ch, rfl, h2, h3, h4⟩
    · have hi : d.in_ i := ⟨by omega, by omega⟩
      rw [if_pos hi] at hop
      obtain ⟨j, rfl⟩ : ∃ j : Nat, i = (j : Int) := ⟨i.toNat, by omega⟩
      have hj2 : j < d.later.length := by rw [hd.len]; omega
      by_cases h16 : bs.length = 16
      · rw [if_pos h16] at hop
        subst hop
        have hz : (bs.length : Int) = 16 := by omega
        have hP := RPut_spec bs hu ab cb rb hrb hb
        have hW := fun a2 c2 H2 (ho : Own 1 5 (u8s (sealB bs)) a2 (sealB bs).length c2 H2) => With_spec d.later (by rw [hd.len]; exact hd.n.2) at_ ct (H2 ++ D) (h3.mono fun q hq => List.mem_append_right _ hq) j hj2 ⟨a2, c2, sealB bs⟩ ⟨by rcases ho.2 with ⟨_, h0, _⟩ | ⟨_, _, _, _, h0, _⟩ <;> (show (sealB bs).length ≤ c2; omega), H2, Own.roSl ho, fun q hq => List.mem_append_left _ hq⟩
        refine Ctr.enter (n := 30) [.cell 6 53, .tmp 7] [(0, _), (1, _), (2, _)] Try.func46 rfl rfl rfl (lb rfl) Try.call46 ⟨rfl, rfl, rfl, trivial⟩ ?_
        intro cx fin fin0
        refine aG ?_
        repeat (first | refine gh (gc3 h0 h1 hz) ?_ | refine gN fun _ => ?_ | refine gB fun _ => ?_ | fail)
        refine W.drawH tab_ok 6 [.b false, .b false, .b false, .b false, .b true, .b true] [] follows (by decide +kernel) (by decide +kernel) rfl (by decide) rfl ?_
        intro _
        refine dG ?_
        repeat (first | refine dL ?_ | refine dS ?_ | (first | refine dGo ?_ | refine dSk ?_ | refine dUn ?_ | fail) | (first | refine dPT ?_ | refine dPF ?_ | fail) | refine dV (OpVal.add rfl rfl (i64_in _ (by omega))) ?_ | refine dV (OpVal.sub rfl rfl (i64_in _ (by omega))) ?_ | refine dV (OpVal.neBool tab_ok rfl rfl rfl) ?_ | refine dV (OpVal.eqBool tab_ok rfl rfl rfl) ?_ | refine dV (OpVal.eqNil tab_ok rfl rfl rfl) ?_ | refine dV (OpVal.neNil tab_ok rfl rfl rfl) ?_ | fail)
        refine dC (o := hP) (h := ?_) (hro := RoIn.all (fun q hq => by simp [hq]))
        rintro _ _ ⟨a2, c2, H2, rfl, rfl, ho⟩
        refine dG ?_
        refine dC (o := hW a2 c2 H2 ho) (h := ?_) (hro := RoIn.append (RoIn.own 0 rfl) (RoIn.all fun q hq => by simp [hq]))
        rintro _ _ ⟨a3, c3, H3, rfl, rfl, hl3⟩
        refine dG ?_
        refine WD.nil (W.dropNil (aG ?_))
        repeat (first | refine gx ?_ | refine gN fun _ => ?_ | refine gB fun _ => ?_ | fail)
        refine W.groupV [0, 0] rfl ?_
        refine W.ret (fin _ _ (FinOk.first 1 (aRc (.tmp rfl .nil)) rfl ?_))
        exact ⟨_, _, rfl, rfl, a, c, a3, c3, ah, ch, rfl, h2.mono fun q hq => List.mem_append_right _ hq, hl3.mono fun q hq => by simpa [List.append_assoc] using hq, h4.mono fun q hq => List.mem_append_right _ hq⟩
      · rw [if_neg h16] at hop
        subst hop
        have hz : ¬ (bs.length : Int) = 16 := by omega
        refine Ctr.enter (n := 30) [.cell 6 53, .tmp 7] [(0, _), (1, _), (2, _)] Try.func46 rfl rfl rfl (lb rfl) Try.call46 ⟨rfl, rfl, rfl, trivial⟩ ?_
        intro cx fin fin0
        refine aG ?_
        repeat (first | refine gh (gc3 h0 h1 hz) ?_ | refine gN fun _ => ?_ | refine gB fun _ => ?_ | fail)
        refine W.nilChunk ?_
        refine W.ret (fin _ _ (FinOk.first 1 (aRc (.tmp rfl .nil)) rfl ?_))
        exact ⟨_, [], rfl, rfl, a, c, at_, ct, ah, ch, rfl, h2, h3, h4⟩
def laterTo (d : Dv) (from_ to : Int) (n : Nat) : List Int := ((List.range n).map Int.ofNat).filter fun i => decide (from_ ≤ i ∧ i < to ∧ d.late i ≠ [])
theorem laterTo_next (d : Dv) (from_ to : Int) (n : Nat) : laterTo d from_ to (n + 1) = laterTo d from_ to n ++ (if from_ ≤ (n : Int) ∧ (n : Int) < to ∧ d.late n ≠ [] then [(n : Int)] else []) := by
  unfold laterTo
  rw [List.range_succ, List.map_append, List.filter_append]
  congr 1
  simp only [List.map_cons, List.map_nil, List.filter_cons, List.filter_nil, decide_eq_true_eq]
  rfl
theorem laterTo_len (d : Dv) (from_ to : Int) (n : Nat) : (laterTo d from_ to n).length ≤ n := by
  unfold laterTo
  exact Nat.le_trans (List.length_filter_le _ _) (by simp)
theorem RLater_spec (d : Dv) (hd : d.Ok) (v : Value) (D : HL) (h : DocD d v D) (from_ to : Int) : Ctr Try.prog 49 [v, .int .i64 from_, .int .i64 to] [] D
    (fun v L' => ∃ a cap Hz, v = .slice a (d.laterIn from_ to).length cap ∧ L' = [Hz] ∧ Own 1 3 (ints (d.laterIn from_ to)) a (d.laterIn from_ to).length cap Hz) := by
  obtain ⟨a, c, at_, ct, ah, ch, rfl, h2, h3, h4⟩ := h
  have hn := hd.n.2
  have hlen := hd.len
  refine Ctr.enter (n := 38) [.tmp 6] [(0, _), (1, _), (2, _)] Try.func49 rfl rfl rfl (lb rfl) Try.call49 ⟨rfl, rfl, rfl, trivial⟩ ?_
  intro cx fin fin0
  refine aG ?_
  repeat (first | refine gx ?_ | refine gN fun _ => ?_ | refine gB fun _ => ?_ | fail)
  rename_i b3
  refine W.nilChunk ?_
  refine aLp (fun k ρ1 L1 => ∃ (j : Nat) (a2 : Option Addr) (c2 : Nat) (Hz : HL), j ≤ d.later.length ∧ k = d.later.length - j ∧ Own 1 3 (ints (laterTo d from_ to j)) a2 (laterTo d from_ to j).length c2 Hz ∧ ρ1 = [(8, .int .i64 (j : Int)), (7, .slice a2 (laterTo d from_ to j).length c2), (3, .pointer (some ⟨b3, 0, none⟩)), (1, .int .i64 from_), (2, .int .i64 to)] ∧ L1 = [Hz, [(b3, .cells #[.slice a d.lasts.length c, .slice at_ d.later.length ct, .slice ah d.head.length ch] 53 (0, 0))]]) (o := ⟨0, none, 0, [], Nat.zero_le _, rfl, Own.nil 1 _, rfl, rfl⟩) (h := ?_)
  rintro k ρ1 L1 ⟨j, a2, c2, Hz, hj, rfl, how, rfl, rfl⟩
  refine aG ?_
  by_cases hlt : j < d.later.length
  · have hz : (j : Int) < (d.later.length : Int) := by omega
    have hnx := laterTo_next d from_ to j
    have hll := laterTo_len d from_ to j
    obtain ⟨by_, oy, ly, ey, fry, ce, rfl, hmem2, l2, hce, h5b, rb, h6b, h7b⟩ := h3.at_ hlt
    have hle : d.late (j : Int) = ce.xs := by
      unfold Dv.late
      rw [Int.toNat_natCast, List.getD_eq_getElem?_getD, List.getElem?_eq_getElem hlt, Option.getD_some, hce]
    rw [hle] at hnx
    by_cases g1 : (j : Int) ≥ from_
    · by_cases g2 : (j : Int) < to
      · by_cases g3 : ce.xs = []
        · have hl0 : ¬ ((ce.xs.length : Nat) : Int) > 0 := by rw [g3]; decide
          rw [if_neg (fun h => h.2.2 g3), List.append_nil] at hnx
          rw [← hnx] at how ⊢
          repeat (first | refine gh (gc3 hz g1 g2) ?_ | refine gN fun _ => ?_ | refine gB fun _ => ?_ | fail)
          refine aV (OpVal.ixI tab_ok rfl rfl rfl rfl rfl hlt) ?_
          repeat (first | refine gh (gc2 g1 g2) ?_ | refine gN fun _ => ?_ | refine gB fun _ => ?_ | fail)
          refine aV (OpVal.load tab_ok rfl (show At _ _ by_ (.cells ly.toArray ey fry) from .inr hmem2) l2) ?_
          repeat (first | refine gh (gc3 g1 g2 hl0) ?_ | refine gN fun _ => ?_ | refine gB fun _ => ?_ | fail)
          refine aR (o := ⟨d.later.length - (j + 1), by omega, j + 1, _, _, _, by omega, rfl, how, rfl, rfl⟩)
        · have hl0 : ((ce.xs.length : Nat) : Int) > 0 := by
            have : ce.xs.length ≠ 0 := fun h => g3 (List.eq_nil_of_length_eq_zero h)
            omega
          rw [if_pos ⟨g1, g2, g3⟩] at hnx
          repeat (first | refine gh (gc3 hz g1 g2) ?_ | refine gN fun _ => ?_ | refine gB fun _ => ?_ | fail)
          refine aV (OpVal.ixI tab_ok rfl rfl rfl rfl rfl hlt) ?_
          repeat (first | refine gh (gc2 g1 g2) ?_ | refine gN fun _ => ?_ | refine gB fun _ => ?_ | fail)
          refine aV (OpVal.load tab_ok rfl (show At _ _ by_ (.cells ly.toArray ey fry) from .inr hmem2) l2) ?_
          repeat (first | refine gh (gc3 g1 g2 hl0) ?_ | refine gN fun _ => ?_ | refine gB fun _ => ?_ | fail)
          refine aSl (ps := [_]) ?_
          intro bt
          refine aG ?_
          refine aAp (how) ?_
          rintro _ _ ⟨_, _, _, rfl, rfl, ho⟩
          refine aG ?_
          have e : ints (laterTo d from_ to j) ++ [.int .i64 (j : Int)] = ints (laterTo d from_ to (j + 1)) := by rw [hnx]; simp [ints]
          have e2 : (laterTo d from_ to j).length + 1 = (laterTo d from_ to (j + 1)).length := by rw [hnx]; simp
          rw [e, e2] at ho
          rw [e2]
          repeat (first | refine gh hz ?_ | refine gN fun _ => ?_ | refine gB fun _ => ?_ | fail)
          refine aR (o := ⟨d.later.length - (j + 1), by omega, j + 1, _, _, _, by omega, rfl, ho, rfl, rfl⟩)
      · rw [if_neg (fun h => g2 h.2.1), List.append_nil] at hnx
        rw [← hnx] at how ⊢
        repeat (first | refine gh (gc3 hz g1 g2) ?_ | refine gN fun _ => ?_ | refine gB fun _ => ?_ | fail)
        refine aR (o := ⟨d.later.length - (j + 1), by omega, j + 1, _, _, _, by omega, rfl, how, rfl, rfl⟩)
    · rw [if_neg (fun h => g1 h.1), List.append_nil] at hnx
      rw [← hnx] at how ⊢
      repeat (first | refine gh (gc2 hz g1) ?_ | refine gN fun _ => ?_ | refine gB fun _ => ?_ | fail)
      refine aR (o := ⟨d.later.length - (j + 1), by omega, j + 1, _, _, _, by omega, rfl, how, rfl, rfl⟩)
  · obtain rfl : j = d.later.length := by omega
    have hz : ¬ (d.later.length : Int) < (d.later.length : Int) := by omega
    have e : laterTo d from_ to d.later.length = d.laterIn from_ to := by unfold laterTo Dv.laterIn; rw [hlen]
    rw [e] at how ⊢
    repeat (first | refine gh hz ?_ | refine gN fun _ => ?_ | refine gB fun _ => ?_ | fail)
    refine W.ret (fin _ _ (FinOk.first 1 (.tmp rfl .nil) rfl ?_))
    exact ⟨_, _, _, rfl, rfl, how⟩
end Go.Proofs.Ytpimbaphenignaa
