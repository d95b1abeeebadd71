/-
  Requests that may be: the document's Good.
-/
import Derived.Test.YtgipjpiiomgjjaaMl
namespace Go.Proofs.Ytgipjpiiomgjjaa
open Go Go.Sl Go.IntWalk
set_option maxHeartbeats 8000000
set_option maxRecDepth 20000
theorem ops14_at (k : Nat) (h : k < 14) : ([.int .i64 1, .int .i64 1, .int .i64 1, .int .i64 2, .int .i64 2, .int .i64 3, .int .i64 3, .int .i64 3, .int .i64 4, .int .i64 4, .int .i64 5, .int .i64 6, .int .i64 7, .int .i64 8] : List Value)[0 + k * 1]? = some (.int .i64 (ops14.getD k 0)) := by
  match k, h with
  | 0, _ => rfl
  | 1, _ => rfl
  | 2, _ => rfl
  | 3, _ => rfl
  | 4, _ => rfl
  | 5, _ => rfl
  | 6, _ => rfl
  | 7, _ => rfl
  | 8, _ => rfl
  | 9, _ => rfl
  | 10, _ => rfl
  | 11, _ => rfl
  | 12, _ => rfl
  | 13, _ => rfl
structure Rq.In (q : Rq) : Prop where
  op : i64s q.op
  page : i64s q.page
  off : i64s q.off
  len : i64s q.len
theorem Good_spec (q : Rq) (hq : q.In) (n : Int) (hn : 0 < n) (aq : Option Addr) (cq : Nat) (rq : HL) (hrq : RoSl 1 (u8s q.data) aq q.data.length rq) :
    Ctr Try.prog 11 [q.v aq cq, .int .i64 n] [] rq (fun v L' => ∃ a' c' H, v = (gq q n).v a' c' ∧ L' = [H] ∧ RoSl 1 (u8s (gq q n).data) a' (gq q n).data.length H) := by
  have h14 := around_range q.op 14 (by decide)
  have hA1 := Around_spec q.op 14 hq.op (by decide)
  have hAp := Around_spec q.page n hq.page hn
  have ho := around_range q.off 33 (by decide)
  have hAo := Around_spec q.off 33 hq.off (by decide)
  have hl := around_range q.len 33 (by decide)
  have hAl := Around_spec q.len 33 hq.len (by decide)
  have hAm := Around_spec q.len (33 - around q.off 33) hq.len (by omega)
  have hG : gop q.op = ops14.getD (around q.op 14).toNat 0 := rfl
  have hgc := gop_cases q.op
  obtain ⟨qo, qp, qf, ql, qd⟩ := q
  simp only at *
  have hgq : gq ⟨qo, qp, qf, ql, qd⟩ n = ⟨gop qo, if gop qo ≠ 6 ∧ gop qo ≠ 8 then around qp n else 0, if gop qo = 2 ∨ gop qo = 3 then around qf 33 else 0, if gop qo = 2 then around ql (33 - around qf 33) else 0, if gop qo = 3 then (fill qd (around ql 33).toNat).take (32 - around qf 33).toNat else []⟩ := rfl
  rw [hgq]
  obtain ⟨k, hk⟩ : ∃ k : Nat, around qo 14 = (k : Int) := ⟨(around qo 14).toNat, by omega⟩
  have hk14 : k < 14 := by omega
  rw [hk] at hA1
  rw [hk, Int.toNat_natCast] at hG
  have hld := ops14_at k hk14
  rw [← hG] at hld
  generalize gop qo = g at *
  clear hgq hG
  have hdata : RoSl 1 (u8s []) none 0 [] := ⟨rfl, .inl ⟨rfl, rfl⟩⟩
  generalize hao : around qf 33 = off at *
  generalize around ql 33 = ln at *
  generalize around ql (33 - off) = le2 at *
  generalize around qp n = pg at *
  rcases hgc with rfl | rfl | rfl | rfl | rfl | rfl | rfl | rfl
  · refine Ctr.enter (n := 59) [.cell 4 25] [(0, _), (1, _)] Try.func11 rfl rfl rfl (lb rfl) Try.call11 ⟨rfl, rfl, trivial⟩ ?_
    intro cx fin fin0
    refine aG ?_
    repeat (first | refine gw ?_ | refine gN fun _ => ?_ | refine gB fun _ => ?_ | fail)
    refine aSl (ps := [_, _, _, _, _, _, _, _, _, _, _, _, _, _]) ?_
    intro bq
    refine aG ?_
    repeat (first | refine gw ?_ | refine gN fun _ => ?_ | refine gB fun _ => ?_ | fail)
    refine aC (o := hA1) (h := ?_)
    rintro _ _ ⟨rfl, rfl⟩
    refine aG ?_
    refine aV (OpVal.ixSl tab_ok rfl rfl rfl rfl rfl hk14) ?_
    refine aV (OpVal.load tab_ok rfl (at_own 0 rfl) hld) ?_
    repeat (first | refine gx ?_ | refine gN fun _ => ?_ | refine gB fun _ => ?_ | fail)
    refine aBu (ps := [_]) ?_
    repeat (first | refine gx ?_ | refine gN fun _ => ?_ | refine gB fun _ => ?_ | fail)
    refine aC (o := hAp) (h := ?_)
    rintro _ _ ⟨rfl, rfl⟩
    refine aG ?_
    repeat (first | refine gx ?_ | refine gN fun _ => ?_ | refine gB fun _ => ?_ | fail)
    refine W.nilChunk ?_
    refine W.ret (fin _ _ (FinOk.first 1 (aRc .nil) rfl ?_))
    exact ⟨none, 0, [], rfl, rfl, hdata⟩
  · refine Ctr.enter (n := 59) [.cell 4 25] [(0, _), (1, _)] Try.func11 rfl rfl rfl (lb rfl) Try.call11 ⟨rfl, rfl, trivial⟩ ?_
    intro cx fin fin0
    refine aG ?_
    repeat (first | refine gw ?_ | refine gN fun _ => ?_ | refine gB fun _ => ?_ | fail)
    refine aSl (ps := [_, _, _, _, _, _, _, _, _, _, _, _, _, _]) ?_
    intro bq
    refine aG ?_
    repeat (first | refine gw ?_ | refine gN fun _ => ?_ | refine gB fun _ => ?_ | fail)
    refine aC (o := hA1) (h := ?_)
    rintro _ _ ⟨rfl, rfl⟩
    refine aG ?_
    refine aV (OpVal.ixSl tab_ok rfl rfl rfl rfl rfl hk14) ?_
    refine aV (OpVal.load tab_ok rfl (at_own 0 rfl) hld) ?_
    repeat (first | refine gx ?_ | refine gN fun _ => ?_ | refine gB fun _ => ?_ | fail)
    refine aBu (ps := [_]) ?_
    repeat (first | refine gx ?_ | refine gN fun _ => ?_ | refine gB fun _ => ?_ | fail)
    refine aC (o := hAp) (h := ?_)
    rintro _ _ ⟨rfl, rfl⟩
    refine aG ?_
    repeat (first | refine gx ?_ | refine gN fun _ => ?_ | refine gB fun _ => ?_ | fail)
    refine aC (o := hAo) (h := ?_)
    rintro _ _ ⟨rfl, rfl⟩
    refine aG ?_
    repeat (first | refine gx ?_ | refine gN fun _ => ?_ | refine gB fun _ => ?_ | fail)
    refine aC (o := hAm) (h := ?_)
    rintro _ _ ⟨rfl, rfl⟩
    refine aG ?_
    repeat (first | refine gx ?_ | refine gN fun _ => ?_ | refine gB fun _ => ?_ | fail)
    refine W.nilChunk ?_
    refine W.ret (fin _ _ (FinOk.first 1 (aRc .nil) rfl ?_))
    exact ⟨none, 0, [], rfl, rfl, hdata⟩
  · refine Ctr.enter (n := 59) [.cell 4 25] [(0, _), (1, _)] Try.func11 rfl rfl rfl (lb rfl) Try.call11 ⟨rfl, rfl, trivial⟩ ?_
    intro cx fin fin0
    refine aG ?_
    repeat (first | refine gw ?_ | refine gN fun _ => ?_ | refine gB fun _ => ?_ | fail)
    refine aSl (ps := [_, _, _, _, _, _, _, _, _, _, _, _, _, _]) ?_
    intro bq
    refine aG ?_
    repeat (first | refine gw ?_ | refine gN fun _ => ?_ | refine gB fun _ => ?_ | fail)
    refine aC (o := hA1) (h := ?_)
    rintro _ _ ⟨rfl, rfl⟩
    refine aG ?_
    refine aV (OpVal.ixSl tab_ok rfl rfl rfl rfl rfl hk14) ?_
    refine aV (OpVal.load tab_ok rfl (at_own 0 rfl) hld) ?_
    repeat (first | refine gx ?_ | refine gN fun _ => ?_ | refine gB fun _ => ?_ | fail)
    refine aBu (ps := [_]) ?_
    repeat (first | refine gx ?_ | refine gN fun _ => ?_ | refine gB fun _ => ?_ | fail)
    refine aC (o := hAp) (h := ?_)
    rintro _ _ ⟨rfl, rfl⟩
    refine aG ?_
    repeat (first | refine gx ?_ | refine gN fun _ => ?_ | refine gB fun _ => ?_ | fail)
    refine aC (o := hAo) (h := ?_)
    rintro _ _ ⟨rfl, rfl⟩
    refine aG ?_
    repeat (first | refine gx ?_ | refine gN fun _ => ?_ | refine gB fun _ => ?_ | fail)
    have hFl := Fill_spec qd aq cq rq hrq ln (by omega) (by omega)
    have hFw : ∀ (ab : Option Addr) (cb : Nat) (rb : HL), ln.toNat ≤ cb → RoSl 1 (u8s (fill qd ln.toNat)) ab ln.toNat rb → _ := fun ab cb rb hcb hrb => by
      have := Few_spec (fill qd ln.toNat) ab cb (by rw [fill_len]; exact hcb) rb (by rw [fill_len]; exact hrb) (32 - off) (by omega) (by omega)
      rw [fill_len] at this
      exact this
    refine W.drawH tab_ok 10 [.b false, .b false, .b false, .b false, .b false, .b true, .b false, .b false, .b false, .b true] [] follows (by decide +kernel) (by decide +kernel) rfl (by decide) rfl ?_
    intro _
    refine dG ?_
    repeat (first | refine dL ?_ | refine dS ?_ | (refine dN ?_; intro _; refine dG ?_) | (refine dB ?_; intro _; refine dG ?_) | fail)
    refine dQ (o := hAl) (h := ?_)
    refine dC (o := hFl) (h := ?_) (hro := RoIn.all (fun q hq => by simp [hq]))
    rintro _ _ ⟨af, cf, Hf, rfl, rfl, hof⟩
    refine dG ?_
    repeat (first | refine dL ?_ | refine dS ?_ | (first | refine dGo ?_ | refine dSk ?_ | refine dUn ?_ | fail) | (first | refine dPT ?_ | refine dPF ?_ | fail) | refine dV (OpVal.add rfl rfl (i64_in _ (by omega))) ?_ | refine dV (OpVal.sub rfl rfl (i64_in _ (by omega))) ?_ | refine dV (OpVal.neBool tab_ok rfl rfl rfl) ?_ | refine dV (OpVal.eqBool tab_ok rfl rfl rfl) ?_ | refine dV (OpVal.eqNil tab_ok rfl rfl rfl) ?_ | refine dV (OpVal.neNil tab_ok rfl rfl rfl) ?_ | fail)
    refine dC (o := hFw af cf Hf hof.cap_le (Own.roSl hof)) (h := ?_) (hro := RoIn.own 0 rfl)
    rintro _ _ ⟨ag, cg, Hg, rfl, rfl, hog⟩
    refine dG ?_
    refine WD.nil (W.dropNil (aG ?_))
    repeat (first | refine gx ?_ | refine gN fun _ => ?_ | refine gB fun _ => ?_ | fail)
    refine W.order [0, 3] rfl ?_
    refine W.ret (fin _ _ (FinOk.first 1 (aRc .nil) rfl ?_))
    exact ⟨ag, cg, Hg, rfl, rfl, Own.roSl hog⟩
  · refine Ctr.enter (n := 59) [.cell 4 25] [(0, _), (1, _)] Try.func11 rfl rfl rfl (lb rfl) Try.call11 ⟨rfl, rfl, trivial⟩ ?_
    intro cx fin fin0
    refine aG ?_
    repeat (first | refine gw ?_ | refine gN fun _ => ?_ | refine gB fun _ => ?_ | fail)
    refine aSl (ps := [_, _, _, _, _, _, _, _, _, _, _, _, _, _]) ?_
    intro bq
    refine aG ?_
    repeat (first | refine gw ?_ | refine gN fun _ => ?_ | refine gB fun _ => ?_ | fail)
    refine aC (o := hA1) (h := ?_)
    rintro _ _ ⟨rfl, rfl⟩
    refine aG ?_
    refine aV (OpVal.ixSl tab_ok rfl rfl rfl rfl rfl hk14) ?_
    refine aV (OpVal.load tab_ok rfl (at_own 0 rfl) hld) ?_
    repeat (first | refine gx ?_ | refine gN fun _ => ?_ | refine gB fun _ => ?_ | fail)
    refine aBu (ps := [_]) ?_
    repeat (first | refine gx ?_ | refine gN fun _ => ?_ | refine gB fun _ => ?_ | fail)
    refine aC (o := hAp) (h := ?_)
    rintro _ _ ⟨rfl, rfl⟩
    refine aG ?_
    repeat (first | refine gx ?_ | refine gN fun _ => ?_ | refine gB fun _ => ?_ | fail)
    refine W.nilChunk ?_
    refine W.ret (fin _ _ (FinOk.first 1 (aRc .nil) rfl ?_))
    exact ⟨none, 0, [], rfl, rfl, hdata⟩
  · refine Ctr.enter (n := 59) [.cell 4 25] [(0, _), (1, _)] Try.func11 rfl rfl rfl (lb rfl) Try.call11 ⟨rfl, rfl, trivial⟩ ?_
    intro cx fin fin0
    refine aG ?_
    repeat (first | refine gw ?_ | refine gN fun _ => ?_ | refine gB fun _ => ?_ | fail)
    refine aSl (ps := [_, _, _, _, _, _, _, _, _, _, _, _, _, _]) ?_
    intro bq
    refine aG ?_
    repeat (first | refine gw ?_ | refine gN fun _ => ?_ | refine gB fun _ => ?_ | fail)
    refine aC (o := hA1) (h := ?_)
    rintro _ _ ⟨rfl, rfl⟩
    refine aG ?_
    refine aV (OpVal.ixSl tab_ok rfl rfl rfl rfl rfl hk14) ?_
    refine aV (OpVal.load tab_ok rfl (at_own 0 rfl) hld) ?_
    repeat (first | refine gx ?_ | refine gN fun _ => ?_ | refine gB fun _ => ?_ | fail)
    refine aBu (ps := [_]) ?_
    repeat (first | refine gx ?_ | refine gN fun _ => ?_ | refine gB fun _ => ?_ | fail)
    refine aC (o := hAp) (h := ?_)
    rintro _ _ ⟨rfl, rfl⟩
    refine aG ?_
    repeat (first | refine gx ?_ | refine gN fun _ => ?_ | refine gB fun _ => ?_ | fail)
    refine W.nilChunk ?_
    refine W.ret (fin _ _ (FinOk.first 1 (aRc .nil) rfl ?_))
    exact ⟨none, 0, [], rfl, rfl, hdata⟩
  · refine Ctr.enter (n := 59) [.cell 4 25] [(0, _), (1, _)] Try.func11 rfl rfl rfl (lb rfl) Try.call11 ⟨rfl, rfl, trivial⟩ ?_
    intro cx fin fin0
    refine aG ?_
    repeat (first | refine gw ?_ | refine gN fun _ => ?_ | refine gB fun _ => ?_ | fail)
    refine aSl (ps := [_, _, _, _, _, _, _, _, _, _, _, _, _, _]) ?_
    intro bq
    refine aG ?_
    repeat (first | refine gw ?_ | refine gN fun _ => ?_ | refine gB fun _ => ?_ | fail)
    refine aC (o := hA1) (h := ?_)
    rintro _ _ ⟨rfl, rfl⟩
    refine aG ?_
    refine aV (OpVal.ixSl tab_ok rfl rfl rfl rfl rfl hk14) ?_
    refine aV (OpVal.load tab_ok rfl (at_own 0 rfl) hld) ?_
    repeat (first | refine gx ?_ | refine gN fun _ => ?_ | refine gB fun _ => ?_ | fail)
    refine aBu (ps := [_]) ?_
    repeat (first | refine gx ?_ | refine gN fun _ => ?_ | refine gB fun _ => ?_ | fail)
    refine W.nilChunk ?_
    refine W.ret (fin _ _ (FinOk.first 1 (aRc .nil) rfl ?_))
    exact ⟨none, 0, [], rfl, rfl, hdata⟩
  · refine Ctr.enter (n := 59) [.cell 4 25] [(0, _), (1, _)] Try.func11 rfl rfl rfl (lb rfl) Try.call11 ⟨rfl, rfl, trivial⟩ ?_
    intro cx fin fin0
    refine aG ?_
    repeat (first | refine gw ?_ | refine gN fun _ => ?_ | refine gB fun _ => ?_ | fail)
    refine aSl (ps := [_, _, _, _, _, _, _, _, _, _, _, _, _, _]) ?_
    intro bq
    refine aG ?_
    repeat (first | refine gw ?_ | refine gN fun _ => ?_ | refine gB fun _ => ?_ | fail)
    refine aC (o := hA1) (h := ?_)
    rintro _ _ ⟨rfl, rfl⟩
    refine aG ?_
    refine aV (OpVal.ixSl tab_ok rfl rfl rfl rfl rfl hk14) ?_
    refine aV (OpVal.load tab_ok rfl (at_own 0 rfl) hld) ?_
    repeat (first | refine gx ?_ | refine gN fun _ => ?_ | refine gB fun _ => ?_ | fail)
    refine aBu (ps := [_]) ?_
    repeat (first | refine gx ?_ | refine gN fun _ => ?_ | refine gB fun _ => ?_ | fail)
    refine aC (o := hAp) (h := ?_)
    rintro _ _ ⟨rfl, rfl⟩
    refine aG ?_
    repeat (first | refine gx ?_ | refine gN fun _ => ?_ | refine gB fun _ => ?_ | fail)
    refine W.nilChunk ?_
    refine W.ret (fin _ _ (FinOk.first 1 (aRc .nil) rfl ?_))
    exact ⟨none, 0, [], rfl, rfl, hdata⟩
  · refine Ctr.enter (n := 59) [.cell 4 25] [(0, _), (1, _)] Try.func11 rfl rfl rfl (lb rfl) Try.call11 ⟨rfl, rfl, trivial⟩ ?_
    intro cx fin fin0
    refine aG ?_
    repeat (first | refine gw ?_ | refine gN fun _ => ?_ | refine gB fun _ => ?_ | fail)
    refine aSl (ps := [_, _, _, _, _, _, _, _, _, _, _, _, _, _]) ?_
    intro bq
    refine aG ?_
    repeat (first | refine gw ?_ | refine gN fun _ => ?_ | refine gB fun _ => ?_ | fail)
    refine aC (o := hA1) (h := ?_)
    rintro _ _ ⟨rfl, rfl⟩
    refine aG ?_
    refine aV (OpVal.ixSl tab_ok rfl rfl rfl rfl rfl hk14) ?_
    refine aV (OpVal.load tab_ok rfl (at_own 0 rfl) hld) ?_
    repeat (first | refine gx ?_ | refine gN fun _ => ?_ | refine gB fun _ => ?_ | fail)
    refine aBu (ps := [_]) ?_
    repeat (first | refine gx ?_ | refine gN fun _ => ?_ | refine gB fun _ => ?_ | fail)
    refine W.nilChunk ?_
    refine W.ret (fin _ _ (FinOk.first 1 (aRc .nil) rfl ?_))
    exact ⟨none, 0, [], rfl, rfl, hdata⟩
end Go.Proofs.Ytgipjpiiomgjjaa
