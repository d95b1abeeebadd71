/-
  The document's clock: Turn, Flags, Victim; that it answers as the program's.
-/
import Derived.Test.YtgipjpiiomgjjaaDc
-- short
namespace Go.Proofs.Ytgipjpiiomgjjaa
open Go Go.Sl Go.IntWalk
set_option maxHeartbeats 4000000
set_option maxRecDepth 20000
theorem RGoes_spec (f : Fl) : Ctr Try.prog 101 [f.v] [] [] (fun v L' => v = .bool (!f.used || decide (f.pins = 0)) ∧ L' = []) := by
  refine Ctr.enter (n := 11) [.tmp 2] [(0, _)] Try.func101 rfl rfl rfl (lb rfl) Try.call101 ⟨rfl, trivial⟩ ?_
  intro cx fin fin0
  refine aG ?_
  repeat (first | refine gw ?_ | refine gN fun _ => ?_ | refine gB fun _ => ?_ | fail)
  by_cases h1 : f.used = true
  · repeat (first | refine gh h1 ?_ | refine gN fun _ => ?_ | refine gB fun _ => ?_ | fail)
    refine W.ret (fin _ _ (FinOk.mk' ([]) (.tmp rfl .nil) (by repeat (first | exact Sel.nil | (apply Sel.cons; (repeat (first | exact Pick.here | apply Pick.there))))) rfl ?_))
    exact ⟨by simp [pack, h1], rfl⟩
  · have h1' : f.used = false := by simpa using h1
    repeat (first | refine gh h1' ?_ | refine gN fun _ => ?_ | refine gB fun _ => ?_ | fail)
    refine W.ret (fin _ _ (FinOk.mk' ([]) (.tmp rfl .nil) (by repeat (first | exact Sel.nil | (apply Sel.cons; (repeat (first | exact Pick.here | apply Pick.there))))) rfl ?_))
    exact ⟨by simp [pack, h1'], rfl⟩
theorem RTurn_spec (fs : List Fl) (h1 : 1 ≤ fs.length) (h2 : fs.length ≤ 64) (hand : Nat) (hh : hand < fs.length) (a : Option Addr) (cap : Nat) (ro : HL) (hro : RoSl 4 (flagsOf fs) a fs.length ro) :
    Ctr Try.prog 92 [.slice a fs.length cap, .int .i64 (hand : Int)] [] ro (fun v L' => ∃ a' cap' H, L' = [H] ∧ Own 4 149 (flagsOf (turnFrom hand (2 * fs.length) 0 fs).1) a' fs.length cap' H ∧
      v = (match (turnFrom hand (2 * fs.length) 0 fs).2 with | some (i, k) => .agg #[.int .i64 (i : Int), .int .i64 (((i + 1) % fs.length : Nat) : Int), .slice a' fs.length cap', .int .i64 (k : Int)] | Option.none => .agg #[.int .i64 0, .int .i64 (hand : Int), .slice a' fs.length cap', .int .i64 0])) := by
  obtain ⟨n, hn⟩ : ∃ n, fs.length = n := ⟨_, rfl⟩
  refine Ctr.enter (n := 61) [.cell 4 146] [(0, _), (1, _)] Try.func92 rfl rfl rfl (lb rfl) Try.call92 ⟨rfl, rfl, trivial⟩ ?_
  intro cx fin fin0
  refine aG ?_
  repeat (first | refine gw ?_ | refine gN fun _ => ?_ | refine gB fun _ => ?_ | fail)
  rename_i b4
  refine W.nilChunk ?_
  refine aPr (appRo tab_ok rfl rfl rfl (Own.nil 4 149) (fun _ h => by cases h) rfl hro (fun p hp => .inr hp) (flags_one fs) (by omega) (by omega)) ?_
  rintro _ _ ⟨ao, co, Ho, rfl, rfl, hown⟩
  refine aG ?_
  rw [List.nil_append, Nat.zero_add] at hown
  rw [Nat.zero_add]
  obtain ⟨bo, lo, rfl, rfl, g1, g2, g3⟩ := hown.some (by omega)
  have hlo : lo = flagsOf fs ++ lo.drop (fs.length * 4) := by rw [← g3, List.take_append_drop]
  have hrl : (lo.drop (fs.length * 4)).length = co * 4 - fs.length * 4 := by rw [List.length_drop, g2]
  generalize lo.drop (fs.length * 4) = rest at hlo hrl
  subst hlo
  rw [hn] at h1 h2 hh g1 hrl ⊢
  refine aG ?_
  refine aBu (ps := [_, _]) ?_
  repeat (first | refine gw ?_ | refine gN fun _ => ?_ | refine gB fun _ => ?_ | fail)
  rename_i b7
  refine aLp (fun q ρ1 L1 => ∃ (k : Nat) (gs : List Fl), k ≤ 2 * n ∧ gs.length = n ∧ turnFrom hand (2 * n - k) k gs = turnFrom hand (2 * n) 0 fs ∧ q = 2 * n - k ∧ ρ1 = [(8, .int .i64 (k : Int)), (5, .int .i64 (n : Int)), (6, .slice (some ⟨bo, 0, none⟩) n co), (1, .int .i64 (hand : Int)), (7, .pointer (some ⟨b7, 0, none⟩)), (4, .pointer (some ⟨b4, 0, none⟩))] ∧ L1 = [[(bo, .cells (flagsOf gs ++ rest).toArray 149 (0, 0))], [(b7, .cells #[.int .i64 0, .int .i64 (hand : Int), .slice (some ⟨bo, 0, none⟩) n co, .int .i64 0] 146 (0, 0))], [(b4, .cells #[.int .i64 0, .int .i64 0, .slice none 0 0, .int .i64 0] 146 (0, 0))]]) (o := ⟨0, fs, Nat.zero_le _, hn, rfl, rfl, rfl, rfl⟩) (h := ?_)
  rintro q ρ1 L1 ⟨k, gs, hk, hgl, hturn, rfl, rfl, rfl⟩
  refine aG ?_
  refine aV (OpVal.mul rfl rfl (i64_in _ (by omega))) ?_
  by_cases hlt : k < 2 * n
  · refine aT ?_ (hb := by simp; omega)
    refine aV (OpVal.add rfl rfl (i64_in _ (by omega))) ?_
    have em : ((hand : Int) + (k : Int)).tmod (n : Int) = (((hand + k) % n : Nat) : Int) := by
      rw [show (hand : Int) + (k : Int) = ((hand + k : Nat) : Int) from by omega]
      rfl
    refine aV (OpVal.rem rfl rfl (by omega) em) ?_
    have hi : (hand + k) % n < gs.length := by rw [hgl]; exact Nat.mod_lt _ (by omega)
    have hsp := flags_split hi
    have hst := flags_set hi gs[(hand + k) % n].goes.1
    have hself : gs.set ((hand + k) % n) gs[(hand + k) % n] = gs := by simp
    have hA : (flagsOf (gs.take ((hand + k) % n))).length = 0 + ((hand + k) % n) * 4 := by rw [flags_take_len (Nat.le_of_lt hi)]; omega
    have hgd : gs.getD ((hand + k) % gs.length) Fl.none = gs[(hand + k) % n] := by
      rw [hgl, List.getD_eq_getElem?_getD, List.getElem?_eq_getElem hi, Option.getD_some]
    have hstep : turnFrom hand (2 * n - k) k gs = if gs[(hand + k) % n].goes.2 = true then (gs.set ((hand + k) % n) gs[(hand + k) % n].goes.1, some ((hand + k) % n, k + 1)) else turnFrom hand (2 * n - (k + 1)) (k + 1) (gs.set ((hand + k) % n) gs[(hand + k) % n].goes.1) := by
      rw [show 2 * n - k = (2 * n - (k + 1)) + 1 from by omega, turnFrom, hgd, hgl]
    generalize gs[(hand + k) % n] = f at hsp hst hself hstep
    rw [hgl] at hi
    generalize hj : (hand + k) % n = j at *
    have hsl : (gs.set j f.goes.1).length = n := by simp [hgl]
    have hseg : seg? (flagsOf gs ++ rest) (0 + j * 4) 4 = some f.l := by
      rw [hsp, List.append_assoc]
      have := seg_mid (A := flagsOf (gs.take j)) (M := f.l) (B := flagsOf (gs.drop (j + 1)) ++ rest) (o := 0) (m := 4) hA rfl
      simpa [Fl.l] using this
    have hu : (flagsOf gs ++ rest)[0 + j * 4 + 0]? = some (.bool f.used) := seg?_get hseg (by decide)
    have hrf : (flagsOf gs ++ rest)[0 + j * 4 + 2]? = some (.bool f.ref) := seg?_get hseg (by decide)
    have hw : splice? (flagsOf gs ++ rest) (0 + j * 4 + 2) [.bool false] = some (flagsOf (gs.set j ⟨f.used, f.dirty, false, f.pins⟩) ++ rest) := by
      have hst2 := flags_set (fs := gs) (i := j) (by omega) ⟨f.used, f.dirty, false, f.pins⟩
      rw [hsp, hst2, List.append_assoc]
      have := splice_mid (A := flagsOf (gs.take j)) (M := f.l) (B := flagsOf (gs.drop (j + 1)) ++ rest) (o := 2) (vs := [.bool false]) (M' := (Fl.mk f.used f.dirty false f.pins).l) hA rfl
      simpa [Fl.l] using this
    have hgo := RGoes_spec f
    refine aV (OpVal.ixSl tab_ok rfl rfl rfl rfl rfl hi) ?_
    refine aV (OpVal.loadN ty_149.1 ty_149.2 rfl (at_own 0 rfl) hseg) ?_
    refine aC (o := hgo) (h := ?_)
    rintro _ _ ⟨rfl, rfl⟩
    refine aG ?_
    by_cases c1 : f.used = false
    · have eg : f.goes = (f, true) := by unfold Fl.goes; rw [if_pos c1]
      rw [eg] at hstep
      rw [if_pos rfl, hself] at hstep
      rw [hstep] at hturn
      rw [c1] at hu ⊢
      repeat (first | refine gx ?_ | refine gN fun _ => ?_ | refine gB fun _ => ?_ | fail)
      refine aV (OpVal.ixSl tab_ok rfl rfl rfl rfl rfl hi) ?_
      refine aV (OpVal.load tab_ok rfl (at_own 0 rfl) hu) ?_
      repeat (first | refine gx ?_ | refine gN fun _ => ?_ | refine gB fun _ => ?_ | fail)
      have em2 : ((j : Int) + 1).tmod (n : Int) = (((j + 1) % n : Nat) : Int) := rfl
      refine aV (OpVal.rem rfl rfl (by omega) em2) ?_
      repeat (first | refine gx ?_ | refine gN fun _ => ?_ | refine gB fun _ => ?_ | fail)
      refine aBu (ps := [_, _, _, _]) ?_
      repeat (first | refine gx ?_ | refine gN fun _ => ?_ | refine gB fun _ => ?_ | fail)
      refine W.ret (fin _ _ (FinOk.first 1 (aRc .nil) rfl ?_))
      rw [hn, ← hturn]
      exact ⟨_, _, _, rfl, ⟨by rw [flagsOf_len, hgl], .inr ⟨bo, flagsOf gs ++ rest, rfl, rfl, g1, by rw [List.length_append, flagsOf_len, hgl, hrl]; omega, by rw [← hgl, ← flagsOf_len]; exact List.take_left⟩⟩, rfl⟩
    · have c1' : f.used = true := by simpa using c1
      rw [c1'] at hu hw ⊢
      by_cases c2 : f.pins = 0
      · by_cases c3 : f.ref = true
        · have eg : f.goes = (⟨f.used, f.dirty, false, f.pins⟩, false) := by unfold Fl.goes; rw [if_neg c1, if_pos c2, c3]; rfl
          rw [eg, if_neg (by simp)] at hstep
          rw [eg] at hsl
          dsimp only at hstep hsl
          rw [hstep] at hturn
          rw [c3] at hrf
          rw [c1'] at hsl hturn
          repeat (first | refine gh c2 ?_ | refine gN fun _ => ?_ | refine gB fun _ => ?_ | fail)
          refine aV (OpVal.ixSl tab_ok rfl rfl rfl rfl rfl hi) ?_
          refine aV (OpVal.load tab_ok rfl (at_own 0 rfl) hu) ?_
          repeat (first | refine gx ?_ | refine gN fun _ => ?_ | refine gB fun _ => ?_ | fail)
          refine aV (OpVal.ixSl tab_ok rfl rfl rfl rfl rfl hi) ?_
          repeat (first | refine gx ?_ | refine gN fun _ => ?_ | refine gB fun _ => ?_ | fail)
          refine aV (OpVal.load tab_ok rfl (at_own 0 rfl) hrf) ?_
          repeat (first | refine gx ?_ | refine gN fun _ => ?_ | refine gB fun _ => ?_ | fail)
          refine aV (OpVal.ixSl tab_ok rfl rfl rfl rfl rfl hi) ?_
          refine W.store tab_ok rfl Upd.here rfl rfl rfl rfl rfl hw (W.step tab_ok rfl rfl ?_)
          repeat (first | refine gx ?_ | refine gN fun _ => ?_ | refine gB fun _ => ?_ | fail)
          refine aR (o := ⟨2 * n - (k + 1), by omega, k + 1, _, by omega, hsl, hturn, rfl, rfl, rfl⟩)
        · have c3' : f.ref = false := by simpa using c3
          have eg : f.goes = (f, true) := by unfold Fl.goes; rw [if_neg c1, if_pos c2, c3']; obtain ⟨a1, a2, a3, a4⟩ := f; simp_all
          rw [eg] at hstep
          rw [if_pos rfl, hself] at hstep
          rw [hstep] at hturn
          rw [c3'] at hrf
          repeat (first | refine gh c2 ?_ | refine gN fun _ => ?_ | refine gB fun _ => ?_ | fail)
          refine aV (OpVal.ixSl tab_ok rfl rfl rfl rfl rfl hi) ?_
          refine aV (OpVal.load tab_ok rfl (at_own 0 rfl) hu) ?_
          repeat (first | refine gx ?_ | refine gN fun _ => ?_ | refine gB fun _ => ?_ | fail)
          refine aV (OpVal.ixSl tab_ok rfl rfl rfl rfl rfl hi) ?_
          repeat (first | refine gx ?_ | refine gN fun _ => ?_ | refine gB fun _ => ?_ | fail)
          refine aV (OpVal.load tab_ok rfl (at_own 0 rfl) hrf) ?_
          repeat (first | refine gx ?_ | refine gN fun _ => ?_ | refine gB fun _ => ?_ | fail)
          have em2 : ((j : Int) + 1).tmod (n : Int) = (((j + 1) % n : Nat) : Int) := rfl
          refine aV (OpVal.rem rfl rfl (by omega) em2) ?_
          repeat (first | refine gx ?_ | refine gN fun _ => ?_ | refine gB fun _ => ?_ | fail)
          refine aBu (ps := [_, _, _, _]) ?_
          repeat (first | refine gx ?_ | refine gN fun _ => ?_ | refine gB fun _ => ?_ | fail)
          refine W.ret (fin _ _ (FinOk.first 1 (aRc .nil) rfl ?_))
          rw [hn, ← hturn]
          exact ⟨_, _, _, rfl, ⟨by rw [flagsOf_len, hgl], .inr ⟨bo, flagsOf gs ++ rest, rfl, rfl, g1, by rw [List.length_append, flagsOf_len, hgl, hrl]; omega, by rw [← hgl, ← flagsOf_len]; exact List.take_left⟩⟩, rfl⟩
      · have eg : f.goes = (f, false) := by unfold Fl.goes; rw [if_neg c1, if_neg c2]
        rw [eg, if_neg (by simp), hself] at hstep
        rw [hstep] at hturn
        repeat (first | refine gh c2 ?_ | refine gN fun _ => ?_ | refine gB fun _ => ?_ | fail)
        refine aR (o := ⟨2 * n - (k + 1), by omega, k + 1, _, by omega, hgl, hturn, rfl, rfl, rfl⟩)
  · refine aF ?_ (hb := by simp; omega)
    have hk2 : k = 2 * n := by omega
    subst hk2
    rw [Nat.sub_self, turnFrom] at hturn
    repeat (first | refine gw ?_ | refine gN fun _ => ?_ | refine gB fun _ => ?_ | fail)
    refine W.ret (fin _ _ (FinOk.first 1 (aRc .nil) rfl ?_))
    rw [hn, ← hturn]
    exact ⟨_, _, _, rfl, ⟨by rw [flagsOf_len, hgl], .inr ⟨bo, flagsOf gs ++ rest, rfl, rfl, g1, by rw [List.length_append, flagsOf_len, hgl, hrl]; omega, by rw [← hgl, ← flagsOf_len]; exact List.take_left⟩⟩, rfl⟩
theorem RFlags_spec (p : Pt) (hi : p.Inv) (v : Value) (D : HL) (hd : DocIn p.fs p.hand v D) : Ctr Try.prog 93 [v] [] D (fun v' L' => ∃ a' cap' H, v' = .slice a' p.fs.length cap' ∧ L' = [H] ∧ Own 4 149 (flagsOf (p.fs.map Fr.fl)) a' p.fs.length cap' H) := by
  obtain ⟨a, cap, ro, rfl, hro, hsub⟩ := hd
  have hsmall := hi.ok.2.2
  refine Ctr.enter (n := 41) [.tmp 2] [(0, _)] Try.func93 rfl rfl rfl (lb rfl) Try.call93 ⟨rfl, trivial⟩ ?_
  intro cx fin fin0
  refine aG ?_
  repeat (first | refine gw ?_ | refine gN fun _ => ?_ | refine gB fun _ => ?_ | fail)
  rename_i b1
  refine W.nilChunk ?_
  refine aLp (fun q ρ1 L1 => ∃ (j : Nat) (aa : Option Addr) (cc : Nat) (H : HL), j ≤ p.fs.length ∧ Own 4 149 (flagsOf ((p.fs.map Fr.fl).take j)) aa j cc H ∧ q = p.fs.length - j ∧ ρ1 = [(4, .int .i64 (j : Int)), (3, .slice aa j cc), (1, .pointer (some ⟨b1, 0, none⟩))] ∧ L1 = [[(b1, .cells #[.slice a p.fs.length cap, .int .i64 p.hand] 33 (0, 0))], H]) (o := ⟨0, none, 0, [], Nat.zero_le _, Own.nil _ _, rfl, rfl, rfl⟩) (h := ?_)
  rintro q ρ1 L1 ⟨j, aa, cc, H, hj, hown, rfl, rfl, rfl⟩
  refine aG ?_
  repeat (first | refine gw ?_ | refine gN fun _ => ?_ | refine gB fun _ => ?_ | fail)
  by_cases hlt : j < p.fs.length
  · refine aT ?_ (hb := by simp; omega)
    obtain ⟨bx, ox, lx, ex, frx, rfl, hmem, hseg, hld⟩ := doc_at hro hlt
    have hat : ∀ (L : List HL), At D L bx (.cells lx.toArray ex frx) := fun L => .inr (hsub _ hmem)
    have hnx : (p.fs.map Fr.fl).take (j + 1) = (p.fs.map Fr.fl).take j ++ [p.fs[j].fl] := by rw [List.take_add_one]; simp [hlt]
    have l0 : lx[ox + j * 6 + 0]? = some (.bool p.fs[j].used) := hld 0 (by decide)
    have l1 : lx[ox + j * 6 + 1]? = some (.bool p.fs[j].dirty) := hld 1 (by decide)
    have l2 : lx[ox + j * 6 + 2]? = some (.bool p.fs[j].ref) := hld 2 (by decide)
    have l3 : lx[ox + j * 6 + 3]? = some (.int .i64 p.fs[j].pins) := hld 3 (by decide)
    generalize p.fs[j] = f at hnx l0 l1 l2 l3
    refine W.drawH tab_ok 27 [.b false, .b false, .b false, .b false, .b false, .b false, .b false, .b false, .b false, .b false, .b false, .b false, .b false, .b false, .b false, .b false, .b false, .b false, .b false, .b false, .b false, .b false, .b false, .b false, .b false, .b false, .b true] [] follows (by decide +kernel) (by decide +kernel) rfl (by decide) rfl ?_
    intro _
    refine dG ?_
    repeat (first | refine dL ?_ | refine dS ?_ | (refine dN ?_; intro _; refine dG ?_) | (refine dB ?_; intro _; refine dG ?_) | fail)
    refine dV (OpVal.ixSl tab_ok rfl rfl rfl rfl rfl hlt) ?_
    refine dV (OpVal.load tab_ok rfl (show At _ _ bx (.cells lx.toArray ex frx) from .inr (by simp [hsub _ hmem])) l0) ?_
    repeat (first | refine dL ?_ | refine dS ?_ | (refine dN ?_; intro _; refine dG ?_) | (refine dB ?_; intro _; refine dG ?_) | fail)
    refine dV (OpVal.ixSl tab_ok rfl rfl rfl rfl rfl hlt) ?_
    refine dV (OpVal.load tab_ok rfl (show At _ _ bx (.cells lx.toArray ex frx) from .inr (by simp [hsub _ hmem])) l1) ?_
    repeat (first | refine dL ?_ | refine dS ?_ | (refine dN ?_; intro _; refine dG ?_) | (refine dB ?_; intro _; refine dG ?_) | fail)
    refine dV (OpVal.ixSl tab_ok rfl rfl rfl rfl rfl hlt) ?_
    refine dV (OpVal.load tab_ok rfl (show At _ _ bx (.cells lx.toArray ex frx) from .inr (by simp [hsub _ hmem])) l2) ?_
    repeat (first | refine dL ?_ | refine dS ?_ | (refine dN ?_; intro _; refine dG ?_) | (refine dB ?_; intro _; refine dG ?_) | fail)
    refine dV (OpVal.ixSl tab_ok rfl rfl rfl rfl rfl hlt) ?_
    refine dV (OpVal.load tab_ok rfl (show At _ _ bx (.cells lx.toArray ex frx) from .inr (by simp [hsub _ hmem])) l3) ?_
    refine dV (OpVal.build (ps := [_, _, _, _]) tab_ok rfl rfl rfl rfl (by repeat (first | exact trivial | refine ⟨⟨_, _, _, rfl, rfl, rfl⟩, ?_⟩)) rfl) ?_
    refine dSl (ps := [_]) ?_
    intro bt
    refine dG ?_
    refine WD.nil (W.dropNil (aG ?_))
    refine aAp (hown) ?_
    rintro _ _ ⟨_, _, _, rfl, rfl, ho⟩
    refine aG ?_
    rw [show flagsOf ((p.fs.map Fr.fl).take j) ++ [.bool f.used, .bool f.dirty, .bool f.ref, .int .i64 f.pins] = flagsOf ((p.fs.map Fr.fl).take (j + 1)) from by rw [hnx]; simp [flagsOf, Fl.l, Fr.fl]] at ho
    refine aV (OpVal.add rfl rfl (i64_in _ (by omega))) ?_
    refine W.order [2, 0] rfl ?_
    refine aR (o := ⟨p.fs.length - (j + 1), by omega, j + 1, _, _, _, by omega, ho, rfl, rfl, rfl⟩)
  · refine aF ?_ (hb := by simp; omega)
    have hjn : j = p.fs.length := by omega
    subst hjn
    rw [List.take_of_length_le (by simp)] at hown
    refine W.order [1] rfl ?_
    refine W.ret (fin _ _ (FinOk.first 1 (.tmp rfl .nil) rfl ?_))
    exact ⟨aa, cc, H, rfl, rfl, hown⟩
end Go.Proofs.Ytgipjpiiomgjjaa
