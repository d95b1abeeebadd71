/-
  The law's like: all is the document's.
-/
import Derived.Test.YtgipjpiiomgjjaaMm
namespace Go.Proofs.Ytgipjpiiomgjjaa
open Go Go.Sl Go.IntWalk
set_option maxHeartbeats 8000000
set_option maxRecDepth 20000
theorem Like_spec (m : Mc) (p : Pt) (hi : MInv m p) (b bm bp : Nat) (Hw Hm Hp : HL) (hw : WAt m p b bm bp Hw Hm Hp) :
    Ctr Try.prog 20 [.pointer (some ⟨b, 0, none⟩)] [] (Hw ++ (Hm ++ Hp)) (fun v L' => v = .bool true ∧ L' = []) := by
  obtain ⟨a, c, r, at_, ct, rt, ag, cg, rg, D, rfl, h2, h3, h4, h5, h6, h7, h8, hm, hp⟩ := hw
  have hpi := hi.inv
  have h64 := hpi.ok.2.2
  have hIo := Io_spec m bm bp Hm hm
  have hBu := Busy_spec m bm bp Hm hm
  have hDa := Data_spec m bm bp Hm hm p hi.inv Hp hp (data_k hi)
  have hRD := RData_spec m p hi.inv (.agg #[.slice a p.fs.length c, .int .i64 p.hand, .int .i64 m.op, .int .i64 m.page, .slice at_ m.todo.length ct, .int .i64 m.to, .slice ag m.got.length cg]) D ⟨a, c, r, at_, ct, rt, ag, cg, rg, rfl, h2, h3, h4, h5, h6, h7, h8⟩ (data_k hi)
  have hLe := Len_spec p bp Hp hp
  have hHa := Hand_spec p bp Hp hp
  have hAt := fun i => PAt_spec p hi.inv.ok bp Hp hp i
  have hb : ∀ {c2 : HL} {L : List HL}, At (c2 ++ (([(b, (Obj.cells (List.toArray [.pointer (some ⟨bm, 0, none⟩), .pointer (some ⟨bp, 0, none⟩), .slice a p.fs.length c, .int .i64 p.hand, .int .i64 m.op, .int .i64 m.page, .slice at_ m.todo.length ct, .int .i64 m.to, .slice ag m.got.length cg]) 40 (0, 0)))] ++ D) ++ (Hm ++ Hp))) L b (Obj.cells (List.toArray [.pointer (some ⟨bm, 0, none⟩), .pointer (some ⟨bp, 0, none⟩), .slice a p.fs.length c, .int .i64 p.hand, .int .i64 m.op, .int .i64 m.page, .slice at_ m.todo.length ct, .int .i64 m.to, .slice ag m.got.length cg]) 40 (0, 0)) := .inr (by simp)
  generalize m.data p = dat at *
  have hh : m.todo = [] ∨ ∃ x rest, m.todo = x :: rest := by cases m.todo with | nil => exact .inl rfl | cons x rest => exact .inr ⟨x, rest, rfl⟩
  refine Ctr.enter (n := 134) [.tmp 2] [(0, _)] Try.func20 rfl rfl rfl (lb rfl) Try.call20 ⟨rfl, trivial⟩ ?_
  intro cx fin fin0
  refine aG ?_
  repeat (first | refine gx ?_ | refine gN fun _ => ?_ | refine gB fun _ => ?_ | fail)
  refine aC (o := hIo) (h := ?_) (hro := RoIn.all (fun q hq => by simp [hq]))
  rintro _ _ ⟨rfl, rfl⟩
  refine aG ?_
  repeat (first | refine gx ?_ | refine gN fun _ => ?_ | refine gB fun _ => ?_ | fail)
  refine W.drawH tab_ok 55 [.b false, .b false, .b false, .b false, .b false, .b false, .b false, .b false, .b false, .b false, .b false, .b false, .b false, .b false, .b false, .b false, .b false, .b true, .b true, .b false, .b false, .b false, .b false, .b false, .b false, .b false, .b false, .b false, .b false, .b false, .b false, .b false, .b false, .b false, .b false, .b false, .b false, .b false, .b false, .b false, .b false, .b false, .b false, .b false, .b false, .b false, .b false, .b false, .b false, .b false, .b false, .b false, .b false, .b false, .b false] [] follows (by decide +kernel) (by decide +kernel) rfl (by decide) rfl ?_
  intro _
  refine dG ?_
  repeat (first | refine dL ?_ | refine dS ?_ | (first | refine dGo ?_ | refine dSk ?_ | refine dUn ?_ | fail) | (first | refine dPT ?_ | refine dPF ?_ | fail) | refine dV (OpVal.add rfl rfl (i64_in _ (by omega))) ?_ | refine dV (OpVal.sub rfl rfl (i64_in _ (by omega))) ?_ | refine dV (OpVal.neBool tab_ok rfl rfl rfl) ?_ | refine dV (OpVal.eqBool tab_ok rfl rfl rfl) ?_ | refine dV (OpVal.eqNil tab_ok rfl rfl rfl) ?_ | refine dV (OpVal.neNil tab_ok rfl rfl rfl) ?_ | fail)
  refine dGo ?_ (hw := by simp) (o := OpVal.load tab_ok rfl hb rfl)
  refine dQg (o := hBu) (h := ?_) (hro := fun q hq => by simp [hq])
  repeat (first | refine dL ?_ | refine dS ?_ | (first | refine dGo ?_ | refine dSk ?_ | refine dUn ?_ | fail) | (first | refine dPT ?_ | refine dPF ?_ | fail) | refine dV (OpVal.add rfl rfl (i64_in _ (by omega))) ?_ | refine dV (OpVal.sub rfl rfl (i64_in _ (by omega))) ?_ | refine dV (OpVal.neBool tab_ok rfl rfl rfl) ?_ | refine dV (OpVal.eqBool tab_ok rfl rfl rfl) ?_ | refine dV (OpVal.eqNil tab_ok rfl rfl rfl) ?_ | refine dV (OpVal.neNil tab_ok rfl rfl rfl) ?_ | fail)
  refine dGo ?_ (hw := by simp) (o := OpVal.neBool tab_ok rfl rfl rfl)
  repeat (first | refine dL ?_ | refine dS ?_ | (first | refine dGo ?_ | refine dSk ?_ | refine dUn ?_ | fail) | (first | refine dPT ?_ | refine dPF ?_ | fail) | refine dV (OpVal.add rfl rfl (i64_in _ (by omega))) ?_ | refine dV (OpVal.sub rfl rfl (i64_in _ (by omega))) ?_ | refine dV (OpVal.neBool tab_ok rfl rfl rfl) ?_ | refine dV (OpVal.eqBool tab_ok rfl rfl rfl) ?_ | refine dV (OpVal.eqNil tab_ok rfl rfl rfl) ?_ | refine dV (OpVal.neNil tab_ok rfl rfl rfl) ?_ | fail)
  refine dGo ?_ (hw := by simp) (o := OpVal.load tab_ok rfl hb rfl)
  refine dCG (o := hDa) (h := ?_) (hw := by simp) (hro := RoIn.all (fun q hq => (List.mem_append.1 hq).elim (fun h => by simp [h]) (fun h => by simp [h])))
  rintro _ _ ⟨ad, nd, cd, Hd, rfl, rfl, hrd, rfl⟩
  refine dG ?_
  refine dVg (OpVal.bytesStr tab_ok rfl rfl rfl rfl hrd (fun q hq => .inl (by simp [hq]))) ?_
  repeat (first | refine dL ?_ | refine dS ?_ | (first | refine dGo ?_ | refine dSk ?_ | refine dUn ?_ | fail) | (first | refine dPT ?_ | refine dPF ?_ | fail) | refine dV (OpVal.add rfl rfl (i64_in _ (by omega))) ?_ | refine dV (OpVal.sub rfl rfl (i64_in _ (by omega))) ?_ | refine dV (OpVal.neBool tab_ok rfl rfl rfl) ?_ | refine dV (OpVal.eqBool tab_ok rfl rfl rfl) ?_ | refine dV (OpVal.eqNil tab_ok rfl rfl rfl) ?_ | refine dV (OpVal.neNil tab_ok rfl rfl rfl) ?_ | fail)
  refine dGo ?_ (hw := by simp) (o := OpVal.load tab_ok rfl hb rfl)
  refine dQg (o := hRD) (h := ?_) (hro := fun q hq => by simp [hq])
  refine dGo ?_ (hw := by simp) (o := OpVal.neStr rfl rfl)
  repeat (first | refine dL ?_ | refine dS ?_ | (first | refine dGo ?_ | refine dSk ?_ | refine dUn ?_ | fail) | (first | refine dPT ?_ | refine dPF ?_ | fail) | refine dV (OpVal.add rfl rfl (i64_in _ (by omega))) ?_ | refine dV (OpVal.sub rfl rfl (i64_in _ (by omega))) ?_ | refine dV (OpVal.neBool tab_ok rfl rfl rfl) ?_ | refine dV (OpVal.eqBool tab_ok rfl rfl rfl) ?_ | refine dV (OpVal.eqNil tab_ok rfl rfl rfl) ?_ | refine dV (OpVal.neNil tab_ok rfl rfl rfl) ?_ | fail)
  refine dGo ?_ (hw := by simp) (o := OpVal.load tab_ok rfl hb rfl)
  refine dQg (o := hLe) (h := ?_) (hro := fun q hq => by simp [hq])
  repeat (first | refine dL ?_ | refine dS ?_ | (first | refine dGo ?_ | refine dSk ?_ | refine dUn ?_ | fail) | (first | refine dPT ?_ | refine dPF ?_ | fail) | refine dV (OpVal.add rfl rfl (i64_in _ (by omega))) ?_ | refine dV (OpVal.sub rfl rfl (i64_in _ (by omega))) ?_ | refine dV (OpVal.neBool tab_ok rfl rfl rfl) ?_ | refine dV (OpVal.eqBool tab_ok rfl rfl rfl) ?_ | refine dV (OpVal.eqNil tab_ok rfl rfl rfl) ?_ | refine dV (OpVal.neNil tab_ok rfl rfl rfl) ?_ | fail)
  refine dGo ?_ (hw := by simp) (o := OpVal.load tab_ok rfl hb rfl)
  repeat (first | refine dL ?_ | refine dS ?_ | (first | refine dGo ?_ | refine dSk ?_ | refine dUn ?_ | fail) | (first | refine dPT ?_ | refine dPF ?_ | fail) | refine dV (OpVal.add rfl rfl (i64_in _ (by omega))) ?_ | refine dV (OpVal.sub rfl rfl (i64_in _ (by omega))) ?_ | refine dV (OpVal.neBool tab_ok rfl rfl rfl) ?_ | refine dV (OpVal.eqBool tab_ok rfl rfl rfl) ?_ | refine dV (OpVal.eqNil tab_ok rfl rfl rfl) ?_ | refine dV (OpVal.neNil tab_ok rfl rfl rfl) ?_ | fail)
  refine dGo ?_ (hw := by simp) (o := OpVal.load tab_ok rfl hb rfl)
  refine dQg (o := hHa) (h := ?_) (hro := fun q hq => by simp [hq])
  repeat (first | refine dL ?_ | refine dS ?_ | (first | refine dGo ?_ | refine dSk ?_ | refine dUn ?_ | fail) | (first | refine dPT ?_ | refine dPF ?_ | fail) | refine dV (OpVal.add rfl rfl (i64_in _ (by omega))) ?_ | refine dV (OpVal.sub rfl rfl (i64_in _ (by omega))) ?_ | refine dV (OpVal.neBool tab_ok rfl rfl rfl) ?_ | refine dV (OpVal.eqBool tab_ok rfl rfl rfl) ?_ | refine dV (OpVal.eqNil tab_ok rfl rfl rfl) ?_ | refine dV (OpVal.neNil tab_ok rfl rfl rfl) ?_ | fail)
  refine dGo ?_ (hw := by simp) (o := OpVal.load tab_ok rfl hb rfl)
  repeat (first | refine dL ?_ | refine dS ?_ | (first | refine dGo ?_ | refine dSk ?_ | refine dUn ?_ | fail) | (first | refine dPT ?_ | refine dPF ?_ | fail) | refine dV (OpVal.add rfl rfl (i64_in _ (by omega))) ?_ | refine dV (OpVal.sub rfl rfl (i64_in _ (by omega))) ?_ | refine dV (OpVal.neBool tab_ok rfl rfl rfl) ?_ | refine dV (OpVal.eqBool tab_ok rfl rfl rfl) ?_ | refine dV (OpVal.eqNil tab_ok rfl rfl rfl) ?_ | refine dV (OpVal.neNil tab_ok rfl rfl rfl) ?_ | fail)
  refine WD.nil (W.dropNil (aG ?_))
  repeat (first | refine gx ?_ | refine gN fun _ => ?_ | refine gB fun _ => ?_ | fail)
  rcases hh with ht | ⟨x, rest, ht⟩
  case' inl =>
    have hz : ¬ 0 < ((m.todo.length : Nat) : Int) := by rw [ht]; decide
    refine W.drawH tab_ok 12 [.b false, .b false, .b false, .b false, .b false, .b false, .b false, .b false, .b false, .b false, .b false, .b false] [] follows (by decide +kernel) (by decide +kernel) rfl (by decide) rfl ?_
    intro _
    refine dG ?_
    repeat (first | refine dL ?_ | refine dS ?_ | (first | refine dGo ?_ | refine dSk ?_ | refine dUn ?_ | refine dGo ?_ (hw := by exact gd hz) | refine dSk ?_ (hw := by exact gd hz) | fail) | (first | refine dPT ?_ | refine dPF ?_ | refine dPT ?_ (hb := by exact gd hz) | refine dPF ?_ (hb := by exact gd hz) | fail) | refine dV (OpVal.add rfl rfl (i64_in _ (by omega))) ?_ | refine dV (OpVal.sub rfl rfl (i64_in _ (by omega))) ?_ | refine dV (OpVal.neBool tab_ok rfl rfl rfl) ?_ | refine dV (OpVal.eqBool tab_ok rfl rfl rfl) ?_ | refine dV (OpVal.eqNil tab_ok rfl rfl rfl) ?_ | refine dV (OpVal.neNil tab_ok rfl rfl rfl) ?_ | fail)
    refine WD.nil (W.dropNil (aG ?_))
    repeat (first | refine gh hz ?_ | refine gN fun _ => ?_ | refine gB fun _ => ?_ | fail)
  case' inr =>
    have hz : 0 < ((m.todo.length : Nat) : Int) := by rw [ht]; simp
    have hz2 : 0 < m.todo.length := by omega
    have hio : m.io = m.todo[0] := by unfold Mc.io; simp [ht]
    obtain ⟨bx, ox, lx, ex, frx, rfl, rfl, hsx, -⟩ := RoSl.at (f := io3) (m := 3) (fun _ => rfl) h3 hz2
    refine W.drawH tab_ok 12 [.b false, .b false, .b false, .b false, .b false, .b false, .b false, .b false, .b false, .b false, .b false, .b false] [] follows (by decide +kernel) (by decide +kernel) rfl (by decide) rfl ?_
    intro _
    refine dG ?_
    repeat (first | refine dL ?_ | refine dS ?_ | (first | refine dGo ?_ | refine dSk ?_ | refine dUn ?_ | refine dGo ?_ (hw := by exact gd hz) | refine dSk ?_ (hw := by exact gd hz) | fail) | (first | refine dPT ?_ | refine dPF ?_ | refine dPT ?_ (hb := by exact gd hz) | refine dPF ?_ (hb := by exact gd hz) | fail) | refine dV (OpVal.add rfl rfl (i64_in _ (by omega))) ?_ | refine dV (OpVal.sub rfl rfl (i64_in _ (by omega))) ?_ | refine dV (OpVal.neBool tab_ok rfl rfl rfl) ?_ | refine dV (OpVal.eqBool tab_ok rfl rfl rfl) ?_ | refine dV (OpVal.eqNil tab_ok rfl rfl rfl) ?_ | refine dV (OpVal.neNil tab_ok rfl rfl rfl) ?_ | fail)
    refine dGo ?_ (hw := by exact dt hz) (o := OpVal.load tab_ok rfl (by repeat (first | exact rh | exact rhF | apply raF | apply rt)) rfl)
    repeat (first | refine dL ?_ | refine dS ?_ | (first | refine dGo ?_ | refine dSk ?_ | refine dUn ?_ | refine dGo ?_ (hw := by exact gd hz) | refine dSk ?_ (hw := by exact gd hz) | fail) | (first | refine dPT ?_ | refine dPF ?_ | refine dPT ?_ (hb := by exact gd hz) | refine dPF ?_ (hb := by exact gd hz) | fail) | refine dV (OpVal.add rfl rfl (i64_in _ (by omega))) ?_ | refine dV (OpVal.sub rfl rfl (i64_in _ (by omega))) ?_ | refine dV (OpVal.neBool tab_ok rfl rfl rfl) ?_ | refine dV (OpVal.eqBool tab_ok rfl rfl rfl) ?_ | refine dV (OpVal.eqNil tab_ok rfl rfl rfl) ?_ | refine dV (OpVal.neNil tab_ok rfl rfl rfl) ?_ | fail)
    refine dGo ?_ (hw := by exact dt hz) (o := OpVal.load tab_ok rfl hb rfl)
    refine dGo ?_ (hw := by exact dt hz) (o := OpVal.ixSl tab_ok rfl rfl rfl rfl rfl hz2)
    refine dGo ?_ (hw := by exact dt hz) (o := OpVal.loadN ty_102.1 ty_102.2 rfl (show At _ _ bx (.cells lx.toArray ex frx) from .inr (by simp [h7])) hsx)
    refine dGo ?_ (hw := by exact dt hz) (o := OpVal.neD (k := 2) rfl rfl (X_eq m.io m.todo[0]) (by decide) X_guard)
    rw [hio, eqIo_self]
    repeat (first | refine dL ?_ | refine dS ?_ | (first | refine dGo ?_ | refine dSk ?_ | refine dUn ?_ | refine dGo ?_ (hw := by exact gd hz) | refine dSk ?_ (hw := by exact gd hz) | fail) | (first | refine dPT ?_ | refine dPF ?_ | refine dPT ?_ (hb := by exact gd hz) | refine dPF ?_ (hb := by exact gd hz) | fail) | refine dV (OpVal.add rfl rfl (i64_in _ (by omega))) ?_ | refine dV (OpVal.sub rfl rfl (i64_in _ (by omega))) ?_ | refine dV (OpVal.neBool tab_ok rfl rfl rfl) ?_ | refine dV (OpVal.eqBool tab_ok rfl rfl rfl) ?_ | refine dV (OpVal.eqNil tab_ok rfl rfl rfl) ?_ | refine dV (OpVal.neNil tab_ok rfl rfl rfl) ?_ | fail)
    refine WD.nil (W.dropNil (aG ?_))
    repeat (first | refine gh hz ?_ | refine gN fun _ => ?_ | refine gB fun _ => ?_ | fail)
  all_goals
    refine aLp (fun k ρ1 L1 => ∃ j : Nat, j ≤ p.fs.length ∧ k = p.fs.length - j ∧ ρ1 = [(6, .int .i64 (j : Int)), (0, .pointer (some ⟨b, 0, none⟩))] ∧ L1 = []) (o := ⟨0, Nat.zero_le _, rfl, rfl, rfl⟩) (h := ?_)
    rintro k ρ1 L1 ⟨j, hj, rfl, rfl, rfl⟩
    refine aG ?_
    repeat (first | refine gx ?_ | refine gN fun _ => ?_ | refine gB fun _ => ?_ | fail)
    by_cases hlt : j < p.fs.length
    case' neg =>
      have hlt2 : ¬ ((j : Int) < (p.fs.length : Int)) := by omega
      repeat (first | refine gh hlt2 ?_ | refine gN fun _ => ?_ | refine gB fun _ => ?_ | fail)
      refine W.ret (fin _ _ (FinOk.mk' ([]) (.tmp rfl .nil) (by repeat (first | exact Sel.nil | (apply Sel.cons; (repeat (first | exact Pick.here | apply Pick.there))))) rfl ?_))
      exact ⟨rfl, rfl⟩
    case' pos =>
      have hlt2 : ((j : Int) < (p.fs.length : Int)) := by omega
      have hfo := hpi.ok.1 _ (List.getElem_mem hlt)
      have hfu := (hpi.good _ (List.getElem_mem hlt)).2.2.2
      have hA := hAt (j : Int)
      rw [Pt.at_nat hlt] at hA
      obtain ⟨bx2, ox2, lx2, ex2, frx2, rfl, hmem, hseg, hld⟩ := doc_at h2 hlt
      generalize p.fs[j] = f at *
      repeat (first | refine gh hlt2 ?_ | refine gN fun _ => ?_ | refine gB fun _ => ?_ | fail)
      refine aC (o := hA) (h := ?_) (hro := RoIn.all (fun q hq => by simp [hq]))
      rintro _ _ ⟨rfl, rfl⟩
      refine aG ?_
      refine aN ?_
      intro c1
      refine aG ?_
      refine W.store tab_ok rfl Upd.here rfl rfl rfl (Fr.l_len hfo) f.l_one (splice_all (by rw [Fr.l_len hfo]; rfl)) (aG ?_)
      have h32 : f.b.length = 32 := hfo
      have hor : ∀ c, RoSl 1 (u8s f.b) (some ⟨c, 0, none⟩) 32 [(c, .cells (u8s f.b).toArray 56 (0, 0))] := fun c => by
        have := own_roT c f.b 56
        rw [h32] at this
        exact this
      refine W.drawH tab_ok 27 [.b false, .b false, .b false, .b false, .b false, .b false, .b false, .b false, .b false, .b false, .b false, .b false, .b false, .b false, .b false, .b false, .b false, .b false, .b false, .b false, .b false, .b false, .b false, .b true, .b true, .b false, .b false] [] follows (by decide +kernel) (by decide +kernel) rfl (by decide) rfl ?_
      intro _
      refine dG ?_
      repeat (first | refine dL ?_ | refine dS ?_ | (first | refine dGo ?_ | refine dSk ?_ | refine dUn ?_ | fail) | (first | refine dPT ?_ | refine dPF ?_ | fail) | refine dV (OpVal.add rfl rfl (i64_in _ (by omega))) ?_ | refine dV (OpVal.sub rfl rfl (i64_in _ (by omega))) ?_ | refine dV (OpVal.neBool tab_ok rfl rfl rfl) ?_ | refine dV (OpVal.eqBool tab_ok rfl rfl rfl) ?_ | refine dV (OpVal.eqNil tab_ok rfl rfl rfl) ?_ | refine dV (OpVal.neNil tab_ok rfl rfl rfl) ?_ | fail)
      refine dV (OpVal.ixSl tab_ok rfl rfl rfl rfl rfl hlt) ?_
      refine dV (OpVal.loadN ty_43.1 ty_43.2 rfl (show At _ _ bx2 (.cells lx2.toArray ex2 frx2) from .inr (by simp [h6 _ hmem])) hseg) ?_
      repeat (first | refine dL ?_ | refine dS ?_ | (first | refine dGo ?_ | refine dSk ?_ | refine dUn ?_ | fail) | (first | refine dPT ?_ | refine dPF ?_ | fail) | refine dV (OpVal.add rfl rfl (i64_in _ (by omega))) ?_ | refine dV (OpVal.sub rfl rfl (i64_in _ (by omega))) ?_ | refine dV (OpVal.neBool tab_ok rfl rfl rfl) ?_ | refine dV (OpVal.eqBool tab_ok rfl rfl rfl) ?_ | refine dV (OpVal.eqNil tab_ok rfl rfl rfl) ?_ | refine dV (OpVal.neNil tab_ok rfl rfl rfl) ?_ | fail)
      refine dC (o := FBytes_spec f hfo c1) (h := ?_)
      rintro _ _ ⟨c2, rfl, rfl⟩
      refine dG ?_
      refine WD.valA (OpVal.bytesStr (bs := f.b) tab_ok rfl rfl rfl rfl (hor c2) (fun p hp => by simp at hp; subst hp; exact at_own 0 rfl)) (by exact Nat.le_of_ble_eq_true rfl) (WD.step tab_ok rfl rfl ?_)
      refine dV (OpVal.build (ps := [_, _, _, _, _, _]) tab_ok rfl rfl rfl rfl (by repeat (first | exact trivial | refine ⟨⟨_, _, _, rfl, rfl, rfl⟩, ?_⟩)) rfl) ?_
      refine dV (neDv (f := f) (g := f) hfu hfu rfl rfl) ?_
      refine WD.nil (W.dropNil (aG ?_))
      repeat (first | refine gh eqDv_self ?_ | refine gN fun _ => ?_ | refine gB fun _ => ?_ | fail)
      refine aR (o := ⟨p.fs.length - (j + 1), by omega, j + 1, by omega, rfl, rfl, rfl⟩)
end Go.Proofs.Ytgipjpiiomgjjaa
