/-
  The device of the document: Barrier; choices.
-/
import Derived.Test.YtpimbaphenignaaVl
namespace Go.Proofs.Ytpimbaphenignaa
open Go Go.Sl Go.IntWalk
set_option maxHeartbeats 8000000
set_option maxRecDepth 20000
set_option linter.unusedVariables false
theorem nil_in (D : HL) : ClIn D ⟨none, 0, []⟩ := ⟨Nat.le_refl _, [], ⟨rfl, .inl ⟨rfl, rfl⟩⟩, fun q hq => by cases hq⟩
theorem late_nat {d : Dv} {k : Nat} (h : k < d.later.length) : d.late (k : Int) = d.later[k] := by
  unfold Dv.late
  rw [Int.toNat_natCast, List.getD_eq_getElem?_getD, List.getElem?_eq_getElem h, Option.getD_some]
theorem last_nat {d : Dv} {k : Nat} (h : k < d.lasts.length) : d.last (k : Int) = d.lasts[k] := by
  unfold Dv.last
  rw [Int.toNat_natCast, List.getD_eq_getElem?_getD, List.getElem?_eq_getElem h, Option.getD_some]
theorem RBarrier_spec (d : Dv) (hd : d.Ok) (v : Value) (D : HL) (h : DocD d v D) (from_ to : Int) : Ctr Try.prog 41 [v, .int .i64 from_, .int .i64 to] [] D
    (fun v' L' => ∃ H, L' = [H] ∧ DocD (d.barrier from_ to) v' (H ++ D)) := by
  have hL := RLater_spec d hd v D h from_ to
  obtain ⟨a, c, at_, ct, ah, ch, rfl, h2, h3, h4⟩ := h
  have hst := laterIn_still d from_ to
  have hlen : (d.laterIn from_ to).length ≤ 1024 := by
    unfold Dv.laterIn
    exact Nat.le_trans (List.length_filter_le _ _) (by have := hd.n.2; simpa using this)
  have hall := settle_all allB (d.laterIn from_ to) (d, ()) hd hst
  unfold Dv.barrier
  generalize d.laterIn from_ to = ats at *
  refine Ctr.enter (n := 44) [.cell 6 53] [(0, _), (1, _), (2, _)] Try.func41 rfl rfl rfl (lb rfl) Try.call41 ⟨rfl, rfl, rfl, trivial⟩ ?_
  intro cx fin fin0
  refine aG ?_
  repeat (first | refine gx ?_ | refine gN fun _ => ?_ | refine gB fun _ => ?_ | fail)
  rename_i b3 b6
  refine aC (o := hL) (h := ?_) (hro := RoIn.all (fun q hq => hq))
  rintro _ _ ⟨az, cz, Hz, rfl, rfl, how⟩
  refine aG ?_
  repeat (first | refine gx ?_ | refine gN fun _ => ?_ | refine gB fun _ => ?_ | fail)
  refine W.nilChunk ?_
  refine aLp (fun k ρ1 L1 => ∃ (j : Nat) (a : Option Addr) (c : Nat) (at_ : Option Addr) (ct : Nat) (HD : HL), j ≤ ats.length ∧ k = ats.length - j ∧ ListIn (HD ++ D) (settle allB (d, ()) (ats.take j)).1.lasts a ∧ ListIn (HD ++ D) (settle allB (d, ()) (ats.take j)).1.later at_ ∧ (settle allB (d, ()) (ats.take j)).1.head = d.head ∧ ρ1 = [(8, .int .i64 (j : Int)), (7, .slice az ats.length cz), (3, .pointer (some ⟨b3, 0, none⟩)), (6, .pointer (some ⟨b6, 0, none⟩))] ∧ L1 = [HD, Hz, [(b3, Obj.cells (List.toArray [.slice a (settle allB (d, ()) (ats.take j)).1.lasts.length c, .slice at_ (settle allB (d, ()) (ats.take j)).1.later.length ct, .slice ah d.head.length ch]) 53 (0, 0))], [(b6, .cells #[.slice none 0 0, .slice none 0 0, .slice none 0 0] 53 (0, 0))]]) (o := ⟨0, a, c, at_, ct, [], Nat.zero_le _, rfl, h2, h3, rfl, rfl, rfl⟩) (h := ?_)
  rintro k ρ1 L1 ⟨j, a, c, at_, ct, HD, hj, rfl, h2, h3, hhd, rfl, rfl⟩
  refine aG ?_
  by_cases hlt : j < ats.length
  · have hz : (j : Int) < (ats.length : Int) := by omega
    have hnx := settle_next allB (d, ()) hlt
    obtain ⟨hok, hsti⟩ := hall j hj
    have hi := hsti.all ats[j] (by rw [List.drop_eq_getElem_cons hlt]; exact List.mem_cons_self)
    obtain ⟨bx, ox, lx, ex, frx, rfl, rfl, -, hld⟩ := RoSl.at (f := fun x : Int => [Value.int .i64 x]) (m := 1) (fun _ => rfl) (Own.roSl how) hlt
    have l0 : lx[ox + j * 1]? = some (.int .i64 ats[j]) := hld 0 (by decide)
    generalize ats[j] = q at *
    generalize ht2 : settle allB (d, ()) (ats.take (j + 1)) = t2 at *
    generalize settle allB (d, ()) (ats.take j) = t at *
    obtain ⟨qk, rfl⟩ : ∃ k : Nat, q = (k : Int) := ⟨q.toNat, by have := hi.1.1; omega⟩
    have hq1 : qk < t.1.lasts.length := by have := hi.1.2; omega
    have hq2 : qk < t.1.later.length := by rw [hok.len]; exact hq1
    obtain ⟨by_, oy, ly, ey, fry, ce, rfl, hmem2, l2, hce, hcin⟩ := h3.at_ hq2
    have hW1 := With_spec t.1.lasts hok.n.2 a c (HD ++ D) h2 qk hq1 ce hcin
    have hW2 := fun H3 => With_spec t.1.later (by rw [hok.len]; exact hok.n.2) (some ⟨by_, oy, none⟩) ct (H3 ++ (HD ++ D)) (h3.mono fun q hq => List.mem_append_right _ hq) qk hq2 ⟨none, 0, []⟩ (nil_in _)
    have e1 : t2.1.lasts = t.1.lasts.set qk ce.xs := by
      rw [hnx]
      show (t.1.lasts.set (qk : Int).toNat (t.1.late (qk : Int))) = _
      rw [late_nat hq2, hce, Int.toNat_natCast]
    have e2 : t2.1.later = t.1.later.set qk (Cl.xs ⟨none, 0, []⟩) := by rw [hnx]; rfl
    have e3 : t2.1.head = t.1.head := by rw [hnx]; rfl
    repeat (first | refine gh hz ?_ | refine gN fun _ => ?_ | refine gB fun _ => ?_ | fail)
    refine W.drawH tab_ok 15 [.b false, .b false, .b false, .b false, .b false, .b false, .b false, .b false, .b false, .b false, .b false, .b false, .b false, .b false, .b true] [] follows (by decide +kernel) (by decide +kernel) rfl (by decide) rfl ?_
    intro _
    refine dG ?_
    repeat (first | refine dL ?_ | refine dS ?_ | (first | refine dGo ?_ | refine dSk ?_ | refine dUn ?_ | fail) | (first | refine dPT ?_ | refine dPF ?_ | fail) | refine dV (OpVal.add rfl rfl (i64_in _ (by omega))) ?_ | refine dV (OpVal.sub rfl rfl (i64_in _ (by omega))) ?_ | refine dV (OpVal.neBool tab_ok rfl rfl rfl) ?_ | refine dV (OpVal.eqBool tab_ok rfl rfl rfl) ?_ | refine dV (OpVal.eqNil tab_ok rfl rfl rfl) ?_ | refine dV (OpVal.neNil tab_ok rfl rfl rfl) ?_ | fail)
    refine dV (OpVal.ixI tab_ok rfl rfl rfl rfl rfl hlt) ?_
    refine dV (OpVal.load tab_ok rfl (show At _ _ bx (.cells lx.toArray ex frx) from .inr (by simp)) l0) ?_
    repeat (first | refine dL ?_ | refine dS ?_ | (first | refine dGo ?_ | refine dSk ?_ | refine dUn ?_ | fail) | (first | refine dPT ?_ | refine dPF ?_ | fail) | refine dV (OpVal.add rfl rfl (i64_in _ (by omega))) ?_ | refine dV (OpVal.sub rfl rfl (i64_in _ (by omega))) ?_ | refine dV (OpVal.neBool tab_ok rfl rfl rfl) ?_ | refine dV (OpVal.eqBool tab_ok rfl rfl rfl) ?_ | refine dV (OpVal.eqNil tab_ok rfl rfl rfl) ?_ | refine dV (OpVal.neNil tab_ok rfl rfl rfl) ?_ | fail)
    refine dV (OpVal.ixI tab_ok rfl rfl rfl rfl rfl hlt) ?_
    refine dV (OpVal.load tab_ok rfl (show At _ _ bx (.cells lx.toArray ex frx) from .inr (by simp)) l0) ?_
    refine dV (OpVal.ixI tab_ok rfl rfl rfl rfl rfl hq2) ?_
    refine dV (OpVal.load tab_ok rfl (show At _ _ by_ (.cells ly.toArray ey fry) from .inr ((List.mem_append.1 hmem2).elim (fun h => by simp [h]) (fun h => by simp [h]))) l2) ?_
    refine dC (o := hW1) (h := ?_) (hro := RoIn.all (fun q hq => (List.mem_append.1 hq).elim (fun h => by simp [h]) (fun h => by simp [h])))
    rintro _ _ ⟨a3, c3, H3, rfl, rfl, hl3⟩
    refine dG ?_
    refine WD.nil (W.dropNil (aG ?_))
    repeat (first | refine gx ?_ | refine gN fun _ => ?_ | refine gB fun _ => ?_ | fail)
    refine W.drawH tab_ok 7 [.b false, .b false, .b false, .b false, .b false, .b false, .b true] [] follows (by decide +kernel) (by decide +kernel) rfl (by decide) rfl ?_
    intro _
    refine dG ?_
    repeat (first | refine dL ?_ | refine dS ?_ | (first | refine dGo ?_ | refine dSk ?_ | refine dUn ?_ | fail) | (first | refine dPT ?_ | refine dPF ?_ | fail) | refine dV (OpVal.add rfl rfl (i64_in _ (by omega))) ?_ | refine dV (OpVal.sub rfl rfl (i64_in _ (by omega))) ?_ | refine dV (OpVal.neBool tab_ok rfl rfl rfl) ?_ | refine dV (OpVal.eqBool tab_ok rfl rfl rfl) ?_ | refine dV (OpVal.eqNil tab_ok rfl rfl rfl) ?_ | refine dV (OpVal.neNil tab_ok rfl rfl rfl) ?_ | fail)
    refine dV (OpVal.ixI tab_ok rfl rfl rfl rfl rfl hlt) ?_
    refine dV (OpVal.load tab_ok rfl (show At _ _ bx (.cells lx.toArray ex frx) from .inr (by simp)) l0) ?_
    refine dC (o := hW2 H3) (h := ?_) (hro := RoIn.all (fun q hq => (List.mem_append.1 hq).elim (fun h => by simp [h]) (fun h => (List.mem_append.1 h).elim (fun h => by simp [h]) (fun h => by simp [h]))))
    rintro _ _ ⟨a4, c4, H4, rfl, rfl, hl4⟩
    refine dG ?_
    refine WD.nil (W.dropNil (aG ?_))
    repeat (first | refine gx ?_ | refine gN fun _ => ?_ | refine gB fun _ => ?_ | fail)
    rw [← e1] at hl3 ⊢
    rw [← e2] at hl4 ⊢
    have hh2 : t2.1.head = d.head := e3.trans hhd
    subst ht2
    refine W.groupV [0, 0, 0] rfl ?_
    refine aR (o := ⟨ats.length - (j + 1), by omega, j + 1, a3, c3, a4, c4, _, by omega, rfl, hl3.mono (fun q hq => by simpa [List.append_assoc] using List.mem_append_right H4 hq), hl4.mono (fun q hq => by simpa [List.append_assoc] using hq), hh2, rfl, rfl⟩)
  · obtain rfl : j = ats.length := by omega
    have hz : ¬ (ats.length : Int) < (ats.length : Int) := by omega
    rw [List.take_length] at h2 h3 hhd ⊢
    have h5 : ClIn (HD ++ D) ⟨ah, ch, (settle allB (d, ()) ats).1.head⟩ := by rw [hhd]; exact h4.mono fun q hq => List.mem_append_right _ hq
    rw [← hhd]
    repeat (first | refine gh hz ?_ | refine gN fun _ => ?_ | refine gB fun _ => ?_ | fail)
    refine W.ret (fin _ _ (FinOk.first 1 (aRc .nil) rfl ?_))
    exact ⟨_, rfl, _, _, _, _, _, _, rfl, h2, h3, h5⟩
end Go.Proofs.Ytpimbaphenignaa
