/-
  The walks of this claim and the rules that they use, part six: each theorem is a contract of one function, or what such a proof asks.
-/
import Derived.Test.YtfajcpnbhnddbaaGreatZ5
import Derived.OpenShut
import Derived.ChangeArms
import Derived.ChangeMaps5
namespace Go.Proofs.YtfajcpnbhnddbaaGreat
open Go Go.Sl Go.IntWalk
set_option maxHeartbeats 8000000
set_option maxRecDepth 20000
theorem ops14_at (k : Nat) (h : k < 14) : ([.int .i64 1, .int .i64 1, .int .i64 1, .int .i64 2, .int .i64 2, .int .i64 3, .int .i64 3, .int .i64 3, .int .i64 4, .int .i64 4, .int .i64 5, .int .i64 6, .int .i64 7, .int .i64 8] : List Value)[0 + k * 1]? = some (.int .i64 (ops14.getD k 0)) := by
  match k, h with
  | 0, _ => rfl
  | 1, _ => rfl
  | 2, _ => rfl
  | 3, _ => rfl
  | 4, _ => rfl
  | 5, _ => rfl
  | 6, _ => rfl
  | 7, _ => rfl
  | 8, _ => rfl
  | 9, _ => rfl
  | 10, _ => rfl
  | 11, _ => rfl
  | 12, _ => rfl
  | 13, _ => rfl
structure Rq.In (q : Rq) : Prop where
  op : i64s q.op
  page : i64s q.page
  off : i64s q.off
  len : i64s q.len
theorem Good_spec (q : Rq) (hq : q.In) (n : Int) (hn : 0 < n) (aq : Option Addr) (cq : Nat) (rq : HL) (hrq : RoSl 1 (u8s q.data) aq q.data.length rq) :
    Ctr Tryz.prog 9 [q.v aq cq, .int .i64 n] [] rq (fun v L' => ∃ a' c' H, v = (gq q n).v a' c' ∧ L' = [H] ∧ RoSl 1 (u8s (gq q n).data) a' (gq q n).data.length H) := by
  have h14 := around_range q.op 14 (by decide)
  have hA1 := Around_spec q.op 14 hq.op (by decide)
  have hAp := Around_spec q.page n hq.page hn
  have ho := around_range q.off 33 (by decide)
  have hAo := Around_spec q.off 33 hq.off (by decide)
  have hl := around_range q.len 33 (by decide)
  have hAl := Around_spec q.len 33 hq.len (by decide)
  have hAm := Around_spec q.len (33 - around q.off 33) hq.len (by omega)
  have hG : gop q.op = ops14.getD (around q.op 14).toNat 0 := rfl
  have hgc := gop_cases q.op
  obtain ⟨qo, qp, qf, ql, qd⟩ := q
  simp only at *
  have hgq : gq ⟨qo, qp, qf, ql, qd⟩ n = ⟨gop qo, if gop qo ≠ 6 ∧ gop qo ≠ 8 then around qp n else 0, if gop qo = 2 ∨ gop qo = 3 then around qf 33 else 0, if gop qo = 2 then around ql (33 - around qf 33) else 0, if gop qo = 3 then (fill qd (around ql 33).toNat).take (32 - around qf 33).toNat else []⟩ := rfl
  rw [hgq]
  obtain ⟨k, hk⟩ : ∃ k : Nat, around qo 14 = (k : Int) := ⟨(around qo 14).toNat, by omega⟩
  have hk14 : k < 14 := by omega
  rw [hk] at hA1
  rw [hk, Int.toNat_natCast] at hG
  have hld := ops14_at k hk14
  rw [← hG] at hld
  generalize gop qo = g at *
  clear hgq hG
  have hdata : RoSl 1 (u8s []) none 0 [] := ⟨rfl, .inl ⟨rfl, rfl⟩⟩
  generalize hao : around qf 33 = off at *
  generalize around ql 33 = ln at *
  generalize around ql (33 - off) = le2 at *
  generalize around qp n = pg at *
  rcases hgc with rfl | rfl | rfl | rfl | rfl | rfl | rfl | rfl
  · refine Ctr.enter (n := 59) [.cell 4 48] [(0, _), (1, _)] Tryz.func9 rfl rfl rfl (lb rfl) Tryz.call9 ⟨rfl, rfl, trivial⟩ ?_
    intro cx fin fin0
    refine aG ?_
    repeat (first | refine gw ?_ | refine gN fun _ => ?_ | refine gB fun _ => ?_ | fail)
    refine aSl (ps := [_, _, _, _, _, _, _, _, _, _, _, _, _, _]) ?_
    intro bq
    refine aG ?_
    repeat (first | refine gw ?_ | refine gN fun _ => ?_ | refine gB fun _ => ?_ | fail)
    refine aC (o := hA1) (h := ?_)
    rintro _ _ ⟨rfl, rfl⟩
    refine aG ?_
    refine aV (OpVal.ixSl tab_ok rfl rfl rfl rfl rfl hk14) ?_
    refine aV (OpVal.load tab_ok rfl (at_own 0 rfl) hld) ?_
    repeat (first | refine gx ?_ | refine gN fun _ => ?_ | refine gB fun _ => ?_ | fail)
    refine aBu (ps := [_]) ?_
    repeat (first | refine gx ?_ | refine gN fun _ => ?_ | refine gB fun _ => ?_ | fail)
    refine aC (o := hAp) (h := ?_)
    rintro _ _ ⟨rfl, rfl⟩
    refine aG ?_
    repeat (first | refine gx ?_ | refine gN fun _ => ?_ | refine gB fun _ => ?_ | fail)
    refine W.nilChunk ?_
    refine W.ret (fin _ _ (FinOk.first 1 (aRc .nil) rfl ?_))
    exact ⟨none, 0, [], rfl, rfl, hdata⟩
  · refine Ctr.enter (n := 59) [.cell 4 48] [(0, _), (1, _)] Tryz.func9 rfl rfl rfl (lb rfl) Tryz.call9 ⟨rfl, rfl, trivial⟩ ?_
    intro cx fin fin0
    refine aG ?_
    repeat (first | refine gw ?_ | refine gN fun _ => ?_ | refine gB fun _ => ?_ | fail)
    refine aSl (ps := [_, _, _, _, _, _, _, _, _, _, _, _, _, _]) ?_
    intro bq
    refine aG ?_
    repeat (first | refine gw ?_ | refine gN fun _ => ?_ | refine gB fun _ => ?_ | fail)
    refine aC (o := hA1) (h := ?_)
    rintro _ _ ⟨rfl, rfl⟩
    refine aG ?_
    refine aV (OpVal.ixSl tab_ok rfl rfl rfl rfl rfl hk14) ?_
    refine aV (OpVal.load tab_ok rfl (at_own 0 rfl) hld) ?_
    repeat (first | refine gx ?_ | refine gN fun _ => ?_ | refine gB fun _ => ?_ | fail)
    refine aBu (ps := [_]) ?_
    repeat (first | refine gx ?_ | refine gN fun _ => ?_ | refine gB fun _ => ?_ | fail)
    refine aC (o := hAp) (h := ?_)
    rintro _ _ ⟨rfl, rfl⟩
    refine aG ?_
    repeat (first | refine gx ?_ | refine gN fun _ => ?_ | refine gB fun _ => ?_ | fail)
    refine aC (o := hAo) (h := ?_)
    rintro _ _ ⟨rfl, rfl⟩
    refine aG ?_
    repeat (first | refine gx ?_ | refine gN fun _ => ?_ | refine gB fun _ => ?_ | fail)
    refine aC (o := hAm) (h := ?_)
    rintro _ _ ⟨rfl, rfl⟩
    refine aG ?_
    repeat (first | refine gx ?_ | refine gN fun _ => ?_ | refine gB fun _ => ?_ | fail)
    refine W.nilChunk ?_
    refine W.ret (fin _ _ (FinOk.first 1 (aRc .nil) rfl ?_))
    exact ⟨none, 0, [], rfl, rfl, hdata⟩
  · refine Ctr.enter (n := 59) [.cell 4 48] [(0, _), (1, _)] Tryz.func9 rfl rfl rfl (lb rfl) Tryz.call9 ⟨rfl, rfl, trivial⟩ ?_
    intro cx fin fin0
    refine aG ?_
    repeat (first | refine gw ?_ | refine gN fun _ => ?_ | refine gB fun _ => ?_ | fail)
    refine aSl (ps := [_, _, _, _, _, _, _, _, _, _, _, _, _, _]) ?_
    intro bq
    refine aG ?_
    repeat (first | refine gw ?_ | refine gN fun _ => ?_ | refine gB fun _ => ?_ | fail)
    refine aC (o := hA1) (h := ?_)
    rintro _ _ ⟨rfl, rfl⟩
    refine aG ?_
    refine aV (OpVal.ixSl tab_ok rfl rfl rfl rfl rfl hk14) ?_
    refine aV (OpVal.load tab_ok rfl (at_own 0 rfl) hld) ?_
    repeat (first | refine gx ?_ | refine gN fun _ => ?_ | refine gB fun _ => ?_ | fail)
    refine aBu (ps := [_]) ?_
    repeat (first | refine gx ?_ | refine gN fun _ => ?_ | refine gB fun _ => ?_ | fail)
    refine aC (o := hAp) (h := ?_)
    rintro _ _ ⟨rfl, rfl⟩
    refine aG ?_
    repeat (first | refine gx ?_ | refine gN fun _ => ?_ | refine gB fun _ => ?_ | fail)
    refine aC (o := hAo) (h := ?_)
    rintro _ _ ⟨rfl, rfl⟩
    refine aG ?_
    repeat (first | refine gx ?_ | refine gN fun _ => ?_ | refine gB fun _ => ?_ | fail)
    have hFl := Fill_spec qd aq cq rq hrq ln (by omega) (by omega)
    have hFw : ∀ (ab : Option Addr) (cb : Nat) (rb : HL), ln.toNat ≤ cb → RoSl 1 (u8s (fill qd ln.toNat)) ab ln.toNat rb → _ := fun ab cb rb hcb hrb => by
      have := Few_spec (fill qd ln.toNat) ab cb (by rw [fill_len]; exact hcb) rb (by rw [fill_len]; exact hrb) (32 - off) (by omega) (by omega)
      rw [fill_len] at this
      exact this
    refine W.drawH tab_ok 10 [.b false, .b false, .b false, .b false, .b false, .b true, .b false, .b false, .b false, .b true] [] follows (by decide +kernel) (by decide +kernel) rfl (by decide) rfl ?_
    intro _
    refine dG ?_
    repeat (first | refine dL ?_ | refine dS ?_ | (refine dN ?_; intro _; refine dG ?_) | (refine dB ?_; intro _; refine dG ?_) | fail)
    refine dQ (o := hAl) (h := ?_)
    refine dC (o := hFl) (h := ?_) (hro := RoIn.all (fun q hq => by simp [hq]))
    rintro _ _ ⟨af, cf, Hf, rfl, rfl, hof⟩
    refine dG ?_
    repeat (first | refine dL ?_ | refine dS ?_ | (first | refine dGo ?_ | refine dSk ?_ | refine dUn ?_ | fail) | (first | refine dPT ?_ | refine dPF ?_ | fail) | refine dV (OpVal.add rfl rfl (i64_in _ (by omega))) ?_ | refine dV (OpVal.sub rfl rfl (i64_in _ (by omega))) ?_ | refine dV (OpVal.neBool tab_ok rfl rfl rfl) ?_ | refine dV (OpVal.eqBool tab_ok rfl rfl rfl) ?_ | refine dV (OpVal.eqNil tab_ok rfl rfl rfl) ?_ | refine dV (OpVal.neNil tab_ok rfl rfl rfl) ?_ | fail)
    refine dC (o := hFw af cf Hf hof.cap_le (Own.roSl hof)) (h := ?_) (hro := RoIn.own 0 rfl)
    rintro _ _ ⟨ag, cg, Hg, rfl, rfl, hog⟩
    refine dG ?_
    refine WD.nil (W.dropNil (aG ?_))
    repeat (first | refine gx ?_ | refine gN fun _ => ?_ | refine gB fun _ => ?_ | fail)
    refine W.order [0, 3] rfl ?_
    refine W.ret (fin _ _ (FinOk.first 1 (aRc .nil) rfl ?_))
    exact ⟨ag, cg, Hg, rfl, rfl, Own.roSl hog⟩
  · refine Ctr.enter (n := 59) [.cell 4 48] [(0, _), (1, _)] Tryz.func9 rfl rfl rfl (lb rfl) Tryz.call9 ⟨rfl, rfl, trivial⟩ ?_
    intro cx fin fin0
    refine aG ?_
    repeat (first | refine gw ?_ | refine gN fun _ => ?_ | refine gB fun _ => ?_ | fail)
    refine aSl (ps := [_, _, _, _, _, _, _, _, _, _, _, _, _, _]) ?_
    intro bq
    refine aG ?_
    repeat (first | refine gw ?_ | refine gN fun _ => ?_ | refine gB fun _ => ?_ | fail)
    refine aC (o := hA1) (h := ?_)
    rintro _ _ ⟨rfl, rfl⟩
    refine aG ?_
    refine aV (OpVal.ixSl tab_ok rfl rfl rfl rfl rfl hk14) ?_
    refine aV (OpVal.load tab_ok rfl (at_own 0 rfl) hld) ?_
    repeat (first | refine gx ?_ | refine gN fun _ => ?_ | refine gB fun _ => ?_ | fail)
    refine aBu (ps := [_]) ?_
    repeat (first | refine gx ?_ | refine gN fun _ => ?_ | refine gB fun _ => ?_ | fail)
    refine aC (o := hAp) (h := ?_)
    rintro _ _ ⟨rfl, rfl⟩
    refine aG ?_
    repeat (first | refine gx ?_ | refine gN fun _ => ?_ | refine gB fun _ => ?_ | fail)
    refine W.nilChunk ?_
    refine W.ret (fin _ _ (FinOk.first 1 (aRc .nil) rfl ?_))
    exact ⟨none, 0, [], rfl, rfl, hdata⟩
  · refine Ctr.enter (n := 59) [.cell 4 48] [(0, _), (1, _)] Tryz.func9 rfl rfl rfl (lb rfl) Tryz.call9 ⟨rfl, rfl, trivial⟩ ?_
    intro cx fin fin0
    refine aG ?_
    repeat (first | refine gw ?_ | refine gN fun _ => ?_ | refine gB fun _ => ?_ | fail)
    refine aSl (ps := [_, _, _, _, _, _, _, _, _, _, _, _, _, _]) ?_
    intro bq
    refine aG ?_
    repeat (first | refine gw ?_ | refine gN fun _ => ?_ | refine gB fun _ => ?_ | fail)
    refine aC (o := hA1) (h := ?_)
    rintro _ _ ⟨rfl, rfl⟩
    refine aG ?_
    refine aV (OpVal.ixSl tab_ok rfl rfl rfl rfl rfl hk14) ?_
    refine aV (OpVal.load tab_ok rfl (at_own 0 rfl) hld) ?_
    repeat (first | refine gx ?_ | refine gN fun _ => ?_ | refine gB fun _ => ?_ | fail)
    refine aBu (ps := [_]) ?_
    repeat (first | refine gx ?_ | refine gN fun _ => ?_ | refine gB fun _ => ?_ | fail)
    refine aC (o := hAp) (h := ?_)
    rintro _ _ ⟨rfl, rfl⟩
    refine aG ?_
    repeat (first | refine gx ?_ | refine gN fun _ => ?_ | refine gB fun _ => ?_ | fail)
    refine W.nilChunk ?_
    refine W.ret (fin _ _ (FinOk.first 1 (aRc .nil) rfl ?_))
    exact ⟨none, 0, [], rfl, rfl, hdata⟩
  · refine Ctr.enter (n := 59) [.cell 4 48] [(0, _), (1, _)] Tryz.func9 rfl rfl rfl (lb rfl) Tryz.call9 ⟨rfl, rfl, trivial⟩ ?_
    intro cx fin fin0
    refine aG ?_
    repeat (first | refine gw ?_ | refine gN fun _ => ?_ | refine gB fun _ => ?_ | fail)
    refine aSl (ps := [_, _, _, _, _, _, _, _, _, _, _, _, _, _]) ?_
    intro bq
    refine aG ?_
    repeat (first | refine gw ?_ | refine gN fun _ => ?_ | refine gB fun _ => ?_ | fail)
    refine aC (o := hA1) (h := ?_)
    rintro _ _ ⟨rfl, rfl⟩
    refine aG ?_
    refine aV (OpVal.ixSl tab_ok rfl rfl rfl rfl rfl hk14) ?_
    refine aV (OpVal.load tab_ok rfl (at_own 0 rfl) hld) ?_
    repeat (first | refine gx ?_ | refine gN fun _ => ?_ | refine gB fun _ => ?_ | fail)
    refine aBu (ps := [_]) ?_
    repeat (first | refine gx ?_ | refine gN fun _ => ?_ | refine gB fun _ => ?_ | fail)
    refine W.nilChunk ?_
    refine W.ret (fin _ _ (FinOk.first 1 (aRc .nil) rfl ?_))
    exact ⟨none, 0, [], rfl, rfl, hdata⟩
  · refine Ctr.enter (n := 59) [.cell 4 48] [(0, _), (1, _)] Tryz.func9 rfl rfl rfl (lb rfl) Tryz.call9 ⟨rfl, rfl, trivial⟩ ?_
    intro cx fin fin0
    refine aG ?_
    repeat (first | refine gw ?_ | refine gN fun _ => ?_ | refine gB fun _ => ?_ | fail)
    refine aSl (ps := [_, _, _, _, _, _, _, _, _, _, _, _, _, _]) ?_
    intro bq
    refine aG ?_
    repeat (first | refine gw ?_ | refine gN fun _ => ?_ | refine gB fun _ => ?_ | fail)
    refine aC (o := hA1) (h := ?_)
    rintro _ _ ⟨rfl, rfl⟩
    refine aG ?_
    refine aV (OpVal.ixSl tab_ok rfl rfl rfl rfl rfl hk14) ?_
    refine aV (OpVal.load tab_ok rfl (at_own 0 rfl) hld) ?_
    repeat (first | refine gx ?_ | refine gN fun _ => ?_ | refine gB fun _ => ?_ | fail)
    refine aBu (ps := [_]) ?_
    repeat (first | refine gx ?_ | refine gN fun _ => ?_ | refine gB fun _ => ?_ | fail)
    refine aC (o := hAp) (h := ?_)
    rintro _ _ ⟨rfl, rfl⟩
    refine aG ?_
    repeat (first | refine gx ?_ | refine gN fun _ => ?_ | refine gB fun _ => ?_ | fail)
    refine W.nilChunk ?_
    refine W.ret (fin _ _ (FinOk.first 1 (aRc .nil) rfl ?_))
    exact ⟨none, 0, [], rfl, rfl, hdata⟩
  · refine Ctr.enter (n := 59) [.cell 4 48] [(0, _), (1, _)] Tryz.func9 rfl rfl rfl (lb rfl) Tryz.call9 ⟨rfl, rfl, trivial⟩ ?_
    intro cx fin fin0
    refine aG ?_
    repeat (first | refine gw ?_ | refine gN fun _ => ?_ | refine gB fun _ => ?_ | fail)
    refine aSl (ps := [_, _, _, _, _, _, _, _, _, _, _, _, _, _]) ?_
    intro bq
    refine aG ?_
    repeat (first | refine gw ?_ | refine gN fun _ => ?_ | refine gB fun _ => ?_ | fail)
    refine aC (o := hA1) (h := ?_)
    rintro _ _ ⟨rfl, rfl⟩
    refine aG ?_
    refine aV (OpVal.ixSl tab_ok rfl rfl rfl rfl rfl hk14) ?_
    refine aV (OpVal.load tab_ok rfl (at_own 0 rfl) hld) ?_
    repeat (first | refine gx ?_ | refine gN fun _ => ?_ | refine gB fun _ => ?_ | fail)
    refine aBu (ps := [_]) ?_
    repeat (first | refine gx ?_ | refine gN fun _ => ?_ | refine gB fun _ => ?_ | fail)
    refine W.nilChunk ?_
    refine W.ret (fin _ _ (FinOk.first 1 (aRc .nil) rfl ?_))
    exact ⟨none, 0, [], rfl, rfl, hdata⟩
end Go.Proofs.YtfajcpnbhnddbaaGreat
namespace Go.Proofs.YtfajcpnbhnddbaaGreat
open Go Go.Sl Go.IntWalk
set_option maxHeartbeats 8000000
set_option maxRecDepth 20000
end Go.Proofs.YtfajcpnbhnddbaaGreat
namespace Go.Proofs.YtfajcpnbhnddbaaGreat
open Go Go.Sl Go.IntWalk
set_option maxHeartbeats 8000000
set_option maxRecDepth 20000
def lq : Rq := ⟨1, 3, 0, 0, []⟩
def z16 : List Int := List.replicate 16 0
def l1 : Mc × Pt × Re := mBegin Mc.idle (Pt.new 1) lq
def l2 : Mc × Pt × Re := mEnd l1.1 l1.2.1 0 z16
def l3 : Mc × Pt × Re := mEnd l2.1 l2.2.1 0 z16
def l4 : Mc × Pt × Re := mBegin l3.1 l3.2.1 lq
theorem l1_is : l1.2.2 = ⟨false, 0, false, [], ⟨0, 1, 0, 0, 0, 0⟩⟩ ∧ l1.1.todo = [(1, 3, 0), (1, 3, 1)] := ⟨rfl, rfl⟩
theorem l2_is : l2.2.2 = ⟨false, 0, false, [], ⟨0, 0, 0, 0, 0, 0⟩⟩ ∧ l2.1.todo = [(1, 3, 1)] := ⟨rfl, rfl⟩
theorem l3_is : l3.2.2 = ⟨true, 0, false, [], ⟨0, 0, 0, 0, 0, 0⟩⟩ ∧ l3.1.todo = [] := ⟨rfl, rfl⟩
theorem l4_is : l4.2.2 = ⟨true, 0, true, [], ⟨1, 0, 0, 0, 0, 0⟩⟩ := rfl
theorem rep16 : repL 16 [Value.int .u8 0] = u8s z16 := rfl
theorem l0_inv : MInv Mc.idle (Pt.new 1) := idle_inv (Pt.new_inv (by decide) (by decide))
theorem nil_u8 : u8ok [] := fun b hb => by cases hb
theorem l1_inv : MInv l1.1 l1.2.1 := begin_inv l0_inv rfl (q := lq) (by decide) (by decide) nil_u8
theorem z16_u8 : u8ok z16 := fun b hb => by
  have := List.eq_of_mem_replicate hb
  omega
theorem l2_inv : MInv l2.1 l2.2.1 := end_inv l1_inv (by rw [l1_is.2]; simp) 0 z16_u8 rfl
theorem l3_inv : MInv l3.1 l3.2.1 := end_inv l2_inv (by rw [l2_is.2]; simp) 0 z16_u8 rfl
end Go.Proofs.YtfajcpnbhnddbaaGreat
namespace Go.Sl
set_option linter.unusedVariables false
open Go Go.RowKit Go.ChangeShapes Go.WideShapes Go.Deep
theorem wf_i64 {a : Int} (h : (Lit.int .i64 a).wf = true) : i64s a := by
  simp only [Lit.wf, Bool.and_eq_true, decide_eq_true_eq] at h
  exact h
theorem wf_u8 {a : Int} (h : (Lit.int .u8 a).wf = true) : 0 ≤ a ∧ a < 256 := by
  simp only [Lit.wf, Bool.and_eq_true, decide_eq_true_eq] at h
  have : 0 ≤ a ∧ a ≤ 255 := h
  omega
theorem wf_u64 {a : Int} (h : (Lit.int .u64 a).wf = true) : 0 ≤ a ∧ a ≤ 18446744073709551615 := by
  simp only [Lit.wf, Bool.and_eq_true, decide_eq_true_eq] at h
  exact h
theorem wf_u32 {a : Int} (h : (Lit.int .u32 a).wf = true) : 0 ≤ a ∧ a ≤ 4294967295 := by
  simp only [Lit.wf, Bool.and_eq_true, decide_eq_true_eq] at h
  exact h
section
variable {H : Type} {enc : TypeId × Value → H} {P : Program} {w : World} {spare : Nat → Bool} {held : Bool} {X Y : Type}
structure Opens (enc : TypeId × Value → H) (P : Program) (w : World) (spare : Nat → Bool) (held : Bool) (t : TypeId) (m : Nat) (f : X → List Value) (Ok : X → Prop) : Prop where
  len : ∀ x, (f x).length = m
  cells : P.cellsOf t = m
  go : ∀ (fuel : Nat) (cs : List Value) (y : DataW H × List MemPlace), DataW.trod enc P w 0 spare held fuel t cs = some y → ∃ x, cs = f x ∧ Ok x
theorem Opens.int {t : TypeId} {kk : IntKind} {Ok : Int → Prop} (ht : P.underlying t = some (.int kk)) (hc : P.cellsOf t = 1) (hw : ∀ i, (Lit.int kk i).wf = true → Ok i) :
    Opens enc P w spare held t 1 (fun i => [Value.int kk i]) Ok :=
  ⟨fun _ => rfl, hc, fun _ _ _ h => by obtain ⟨i, rfl, _, hwf⟩ := DataW.trod_int ht h; exact ⟨i, rfl, hw i hwf⟩⟩
theorem Opens.bool {t : TypeId} (ht : P.underlying t = some .bool) (hc : P.cellsOf t = 1) : Opens enc P w spare held t 1 (fun b => [Value.bool b]) (fun _ => True) :=
  ⟨fun _ => rfl, hc, fun _ _ _ h => by obtain ⟨i, rfl, _⟩ := DataW.trod_bool ht h; exact ⟨i, rfl, trivial⟩⟩
theorem Opens.str {t : TypeId} (ht : P.underlying t = some .string) (hc : P.cellsOf t = 1) : Opens enc P w spare held t 1 (fun s => [Value.string s]) (fun s => s.size ≤ maxLen) :=
  ⟨fun _ => rfl, hc, fun _ _ _ h => by obtain ⟨s, rfl, _, hs⟩ := DataW.trod_string ht h; exact ⟨s, rfl, hs⟩⟩
theorem Opens.imp {t : TypeId} {m : Nat} {f f' : X → List Value} {Ok Ok' : X → Prop} (h : Opens enc P w spare held t m f Ok) (hf : ∀ x, f x = f' x) (hok : ∀ x, Ok x → Ok' x) : Opens enc P w spare held t m f' Ok' :=
  ⟨fun x => by rw [← hf]; exact h.len x, h.cells, fun fuel cs y hy => by obtain ⟨x, e, o⟩ := h.go fuel cs y hy; exact ⟨x, by rw [← hf]; exact e, hok x o⟩⟩
def SlD.l (s : SlD X) : List Value := [.slice s.a s.xs.length s.cap]
structure SlD.Ok (w : World) (m : Nat) (f : X → List Value) (okx : X → Prop) (s : SlD X) : Prop where
  ro : RoSl m (s.xs.flatMap f) s.a s.xs.length s.ro
  mem : ∀ p ∈ s.ro, w.heap[p.1]? = some p.2
  all : ∀ x ∈ s.xs, okx x
  cap : s.xs.length ≤ s.cap
  max : s.cap ≤ maxLen
theorem Opens.sl {t e : TypeId} {m : Nat} {f : X → List Value} {Ok : X → Prop} (he : Opens enc P w spare held e m f Ok) (hm : 0 < m) (ht : P.underlying t = some (.slice e)) (hct : P.cellsOf t = 1) :
    Opens enc P w spare held t 1 SlD.l (SlD.Ok w m f Ok) := by
  refine ⟨fun _ => rfl, hct, fun fuel cs y h => ?_⟩
  have hf := he.len
  have hC := he.cells
  rcases open_slice ht h with ⟨hcs, _⟩ | ⟨a', len, cap, m', n', D, Pl, hcs, _, hlc, hcm, hmm, _, hel⟩
  · exact ⟨⟨none, 0, [], []⟩, hcs, ⟨by simp, .inl ⟨rfl, rfl⟩⟩, fun _ h => (by cases h), fun _ h => (by cases h), Nat.le_refl _, by simp [maxLen]⟩
  · have hml : len ≤ m' := by rw [hmm]; split <;> omega
    rw [hC] at hel
    have hel2 : ∀ i, i < len → ∃ x, (∀ j, j < m → w.cell? (a'.add (i * m + j)) = (f x)[j]?) ∧ Ok x := by
      intro i hi
      obtain ⟨cs', h1, h2⟩ := hel i (by omega)
      obtain ⟨x, rfl, hx⟩ := he.go _ _ _ h2
      obtain ⟨_, _, h3⟩ := World.cells?_some h1
      refine ⟨x, fun j hj => ?_, hx⟩
      rw [← h3 j hj, Go.Deep.add_add]
    obtain ⟨xs, hxl, hxs⟩ := choose_list _ len hel2
    by_cases h0 : len = 0
    · subst h0
      have : xs = [] := List.eq_nil_of_length_eq_zero hxl
      subst this
      exact ⟨⟨some a', cap, [], []⟩, hcs, ⟨by simp, .inl ⟨rfl, rfl⟩⟩, fun _ h => (by cases h), fun _ h => (by cases h), Nat.zero_le _, hcm⟩
    · subst hxl
      have c0 := (hxs 0 (by omega)).1 0 hm
      simp only [Nat.zero_mul, Nat.zero_add] at c0
      have hlt0 : 0 < (f (xs[0]'(by omega))).length := by rw [hf]; exact hm
      rw [List.getElem?_eq_getElem hlt0] at c0
      obtain ⟨c, e', fr, hb, hsp, hc0⟩ := block_of_cell c0
      have hadd0 : a'.add 0 = a' := by simp [Addr.add]
      rw [hadd0] at hb hsp hc0
      obtain ⟨b, off, sp⟩ := a'
      simp only at hsp hb hc0
      subst hsp
      have hcell : ∀ i (hi : i < xs.length), ∀ j, j < m → c.toList[off + (i * m + j)]? = (f xs[i])[j]? := by
        intro i hi j hj
        have := (hxs i hi).1 j hj
        rw [Go.Sl.Addr.add_none', cell_of_row w b _ c e' fr hb] at this
        rw [← this]; simp
      have hlen : off + xs.length * m ≤ c.toList.length := by
        have h1 := hcell (xs.length - 1) (by omega) (m - 1) (by omega)
        have hfl : m - 1 < (f (xs[xs.length - 1]'(by omega))).length := by rw [hf]; omega
        rw [List.getElem?_eq_getElem hfl] at h1
        have h2 := (List.getElem?_eq_some_iff.1 h1).1
        have h3 : xs.length * m = (xs.length - 1) * m + m := by
          rw [← Nat.succ_mul]; congr 1; omega
        omega
      refine ⟨⟨some ⟨b, off, none⟩, cap, xs, [(b, .cells c e' fr)]⟩, hcs, ⟨flatMap_len f m hf xs, .inr ⟨b, off, c.toList, e', fr, rfl, by simp, hlen, ?_⟩⟩, ?_, ?_, hlc, hcm⟩
      · refine flatMap_of_segs f m hf xs _ (by simp at hlen ⊢; omega) (fun i hi => ?_)
        apply List.ext_getElem?
        intro j
        by_cases hj : j < m
        · have h1 : i * m + m ≤ xs.length * m := by rw [← Nat.succ_mul]; exact Nat.mul_le_mul_right m hi
          dsimp only
          rw [List.getElem?_take, if_pos hj, List.getElem?_drop, List.getElem?_take, if_pos (by omega), List.getElem?_drop, hcell i hi j hj]
        · rw [List.getElem?_eq_none (by simp; omega), List.getElem?_eq_none (by rw [hf]; omega)]
      · intro p hp
        simp at hp
        subst hp
        exact hb
      · intro x hx
        obtain ⟨i, hi, rfl⟩ := List.getElem_of_mem hx
        exact (hxs i hi).2
structure OpenF (enc : TypeId × Value → H) (P : Program) (w : World) (spare : Nat → Bool) (held : Bool) (fs : List (TypeId × Nat)) (m : Nat) (f : X → List Value) (Ok : X → Prop) : Prop where
  len : ∀ x, (f x).length = m
  go : ∀ (cs : List Value), cs.length = m → (∀ (i o : Nat) (t : TypeId) (k : Nat), fs[i]? = some (t, k) → o = ((fs.take i).map (·.2)).sum → ∃ n y, DataW.trod enc P w 0 spare held n t ((cs.drop o).take k) = some y) → ∃ x, cs = f x ∧ Ok x
theorem OpenF.nil : OpenF enc P w spare held [] 0 (fun _ : Unit => []) (fun _ => True) := ⟨fun _ => rfl, fun cs h _ => ⟨(), List.eq_nil_of_length_eq_zero h, trivial⟩⟩
theorem OpenF.cons {t : TypeId} {k m : Nat} {fs : List (TypeId × Nat)} {f : X → List Value} {g : Y → List Value} {Ok : X → Prop} {Ok' : Y → Prop} (h1 : Opens enc P w spare held t k f Ok) (h2 : OpenF enc P w spare held fs m g Ok') :
    OpenF enc P w spare held ((t, k) :: fs) (k + m) (fun q : X × Y => f q.1 ++ g q.2) (fun q => Ok q.1 ∧ Ok' q.2) := by
  refine ⟨fun q => by rw [List.length_append, h1.len, h2.len], fun cs hl hg => ?_⟩
  obtain ⟨n, y, h3⟩ := hg 0 0 t k rfl rfl
  obtain ⟨x, e1, o1⟩ := h1.go _ _ _ h3
  obtain ⟨z, e2, o2⟩ := h2.go (cs.drop k) (by rw [List.length_drop]; omega) (fun i o t' k' hi ho => by
    obtain ⟨n', y', h4⟩ := hg (i + 1) (k + o) t' k' (by simpa using hi) (by simp [ho])
    exact ⟨n', y', by rw [List.drop_drop]; exact h4⟩)
  refine ⟨(x, z), ?_, o1, o2⟩
  simp only [List.drop_zero] at e1
  rw [← e1, ← e2, List.take_append_drop]
def sums : Nat → List (TypeId × Nat) → List (TypeId × Nat)
  | _, [] => []
  | o, (t, k) :: r => (t, o) :: sums (o + k) r
theorem sums_get : ∀ (fs : List (TypeId × Nat)) (o i : Nat) (t : TypeId) (k : Nat), fs[i]? = some (t, k) → (sums o fs)[i]? = some (t, o + ((fs.take i).map (·.2)).sum)
  | (t', k') :: r, o, 0, t, k, h => by simp at h; obtain ⟨rfl, rfl⟩ := h; simp [sums]
  | (t', k') :: r, o, i + 1, t, k, h => by
    have := sums_get r (o + k') i t k (by simpa using h)
    simp only [sums, List.getElem?_cons_succ, this, List.take_succ_cons, List.map_cons, List.sum_cons]
    congr 2
    omega
  | [], _, _, _, _, h => by simp at h
theorem Opens.st {t : TypeId} {fa : Array Field} {fs : List (TypeId × Nat)} {m : Nat} {f : X → List Value} {Ok : X → Prop} (h : OpenF enc P w spare held fs m f Ok) (ht : P.underlying t = some (.struct fa))
    (hf : fa.toList.map (fun f => (f.type, f.offset)) = sums 0 fs) (hc : P.cellsOf t = m) (hcs : ∀ q ∈ fs, P.cellsOf q.1 = q.2) : Opens enc P w spare held t m f Ok := by
  refine ⟨h.len, hc, fun fuel cs y hy => ?_⟩
  obtain ⟨xs, n, _, _, hlen, hxl, hg⟩ := DataW.trod_struct ht hy
  refine h.go cs (by rw [hlen, hc]) (fun i o t' k hi ho => ?_)
  have h1 := sums_get fs 0 i t' k hi
  rw [← hf, List.getElem?_map, Option.map_eq_some_iff] at h1
  obtain ⟨fd, h2, h3⟩ := h1
  simp only [Prod.mk.injEq] at h3
  have h2' : fa[i]? = some fd := by simpa using h2
  have h4 := hg i fd h2'
  have hk := hcs (t', k) (List.mem_of_getElem? hi)
  simp only at hk
  rw [h3.1, h3.2, hk, Nat.zero_add, ← ho] at h4
  have hil : i < xs.length := by
    rw [hxl]
    exact (Array.getElem?_eq_some_iff.1 h2').1
  rw [List.getElem?_eq_getElem hil] at h4
  exact ⟨n, _, h4⟩
theorem Opens.argSl {t e : TypeId} {m : Nat} {f : X → List Value} {Ok : X → Prop} (he : Opens enc P w spare held e m f Ok) (hm : 0 < m) (ht : P.underlying t = some (.slice e)) (hct : P.cellsOf t = 1)
    {r : Reach} {b0 : Nat} {v : Value} {d : DataW H} {ps : List MemPlace} (hok : Value.okWide P w r b0 t v) (h : DataW.Trod enc P w 0 spare held t v d ps) : ∃ s : SlD X, v = .slice s.a s.xs.length s.cap ∧ SlD.Ok w m f Ok s := by
  obtain ⟨a, len, cap, rfl⟩ := okWide_slice ht hok
  obtain ⟨fuel, hf⟩ := h
  obtain ⟨s, e1, e2⟩ := (Opens.sl he hm ht hct).go _ _ _ hf
  simp only [Value.cells, SlD.l, List.cons.injEq, and_true] at e1
  exact ⟨s, e1, e2⟩
theorem Opens.argSt {t : TypeId} {fa : Array Field} {m : Nat} {f : X → List Value} {Ok : X → Prop} (ho : Opens enc P w spare held t m f Ok) (ht : P.underlying t = some (.struct fa))
    {r : Reach} {b0 : Nat} {v : Value} {d : DataW H} {ps : List MemPlace} (hok : Value.okWide P w r b0 t v) (h : DataW.Trod enc P w 0 spare held t v d ps) : ∃ x : X, v = .agg (f x).toArray ∧ Ok x := by
  obtain ⟨cs, rfl, _⟩ := okWide_struct ht hok
  obtain ⟨fuel, hf⟩ := h
  obtain ⟨x, e1, e2⟩ := ho.go _ _ _ hf
  refine ⟨x, ?_, e2⟩
  simp only [Value.cells] at e1
  rw [← e1]
end
end Go.Sl
namespace Go.Proofs.YtfajcpnbhnddbaaGreat
open Go Go.Sl Go.IntWalk
set_option maxHeartbeats 8000000
set_option maxRecDepth 20000
structure QD where
  op : Int
  page : Int
  off : Int
  len : Int
  b : SlD Int
def QD.l (o : QD) : List Value := [.int .i64 o.op, .int .i64 o.page, .int .i64 o.off, .int .i64 o.len, .slice o.b.a o.b.xs.length o.b.cap]
structure QD.Ok (o : QD) : Prop where
  inn : Rq.In ⟨o.op, o.page, o.off, o.len, o.b.xs⟩
  ro : RoSl 1 (u8s o.b.xs) o.b.a o.b.xs.length o.b.ro
  u8 : u8ok o.b.xs
def QD.q (o : QD) : Rq := ⟨o.op, o.page, o.off, o.len, o.b.xs⟩
def QD.of (q : Int × Int × Int × Int × SlD Int × Unit) : QD := ⟨q.1, q.2.1, q.2.2.1, q.2.2.2.1, q.2.2.2.2.1⟩
def qros (os : List QD) : HL := os.flatMap (·.b.ro)
section
variable {H : Type} {enc : TypeId × Value → H} {w : World} {spare : Nat → Bool} {held : Bool}
theorem opens_Q : ∃ f Ok, Opens enc Tryz.prog w spare held 48 5 f Ok ∧ ∀ q, f q = (QD.of q).l ∧ (Ok q → (QD.of q).Ok ∧ ∀ p ∈ (QD.of q).b.ro, w.heap[p.1]? = some p.2) := by
  have hi : Opens enc Tryz.prog w spare held 3 1 (fun i => [Value.int .i64 i]) i64s := Opens.int Tryz.underlying3 (by kernel_rfl) (fun _ h => wf_i64 h)
  have hb : Opens enc Tryz.prog w spare held 5 1 (fun i => [Value.int .u8 i]) (fun x => 0 ≤ x ∧ x < 256) := Opens.int Tryz.underlying5 (by kernel_rfl) (fun _ h => wf_u8 h)
  refine ⟨_, _, Opens.st (OpenF.cons hi (OpenF.cons hi (OpenF.cons hi (OpenF.cons hi (OpenF.cons (Opens.sl hb (by decide) Tryz.underlying34 (by kernel_rfl)) OpenF.nil))))) Tryz.underlying48 (by kernel_rfl) (by kernel_rfl) ?_, fun q => ⟨rfl, ?_⟩⟩
  · intro q hq
    have h1 : Tryz.prog.cellsOf 3 = 1 := by kernel_rfl
    have h2 : Tryz.prog.cellsOf 34 = 1 := by kernel_rfl
    simp only [List.mem_cons, List.not_mem_nil, or_false] at hq
    rcases hq with rfl | rfl | rfl | rfl | rfl <;> first | exact h1 | exact h2
  · rintro ⟨h1, h2, h3, h4, h6, _⟩
    exact ⟨⟨⟨h1, h2, h3, h4⟩, h6.ro, h6.all⟩, h6.mem⟩
theorem open_Qs {t : Nat} (ht : Tryz.prog.underlying t = some (.slice 48)) (hct : Tryz.prog.cellsOf t = 1) {r : Reach} {b0 : Nat} {v : Value} {d : DataW H} {ps : List MemPlace} (hok : Value.okWide Tryz.prog w r b0 t v) (h : DataW.Trod enc Tryz.prog w 0 spare held t v d ps) :
    ∃ (os : List QD) (a : Option Addr) (cap : Nat) (ro : HL), v = .slice a os.length cap ∧ RoSl 5 (os.flatMap QD.l) a os.length ro ∧ (∀ p ∈ ro ++ qros os, w.heap[p.1]? = some p.2) ∧ (∀ o ∈ os, QD.Ok o) := by
  obtain ⟨f, Ok, hop, hq⟩ := opens_Q (enc := enc) (w := w) (spare := spare) (held := held)
  obtain ⟨s, rfl, hs⟩ := Opens.argSl hop (by decide) ht hct hok h
  refine ⟨s.xs.map QD.of, s.a, s.cap, s.ro, by rw [List.length_map], ?_, fun p hp => ?_, fun o ho => ?_⟩
  · have e : (s.xs.map QD.of).flatMap QD.l = s.xs.flatMap f := by
      rw [List.flatMap_map]
      congr 1
      funext x
      exact ((hq x).1).symm
    rw [e, List.length_map]
    exact hs.ro
  · rcases List.mem_append.1 hp with hp | hp
    · exact hs.mem p hp
    · obtain ⟨o, ho, hpo⟩ := List.mem_flatMap.1 hp
      obtain ⟨x, hx, rfl⟩ := List.mem_map.1 ho
      exact ((hq x).2 (hs.all x hx)).2 p hpo
  · obtain ⟨x, hx, rfl⟩ := List.mem_map.1 ho
    exact ((hq x).2 (hs.all x hx)).1
theorem open_Q1 {r : Reach} {b0 : Nat} {v : Value} {d : DataW H} {ps : List MemPlace} (hok : Value.okWide Tryz.prog w r b0 48 v) (h : DataW.Trod enc Tryz.prog w 0 spare held 48 v d ps) :
    ∃ o : QD, v = .agg o.l.toArray ∧ (∀ p ∈ o.b.ro, w.heap[p.1]? = some p.2) ∧ o.Ok := by
  obtain ⟨f, Ok, hop, hq⟩ := opens_Q (enc := enc) (w := w) (spare := spare) (held := held)
  obtain ⟨x, rfl, hx⟩ := Opens.argSt hop Tryz.underlying48 hok h
  exact ⟨QD.of x, by rw [← (hq x).1], ((hq x).2 hx).2, ((hq x).2 hx).1⟩
end
theorem _root_.Go.Sl.OpVal.minL {P : Program} {n : Nat} {R : HL} {cx : Cx} {ρ : Env} {L : List HL} {t1 t2 ty : TypeId} {x y : Operand} {kk k2 : IntKind} {i j : Int} (hx : ev? ρ x = some (.int kk i)) (hy : ev? ρ y = some (.int k2 j)) (h : ¬ j < i) :
    OpVal P n R cx (.call ⟨.builtin .min, #[x, y], #[t1, t2]⟩) ty ρ L (.int kk i) := by
  have := OpVal.min2 (P := P) (n := n) (R := R) (cx := cx) (L := L) (t1 := t1) (t2 := t2) (ty := ty) hx hy
  rwa [if_neg h] at this
end Go.Proofs.YtfajcpnbhnddbaaGreat
namespace Go.Proofs.YtfajcpnbhnddbaaGreat
open Go Go.Sl Go.IntWalk
set_option maxHeartbeats 8000000
set_option maxRecDepth 20000
set_option linter.unusedVariables false
structure VO where
  k : Int
  q : QD
  bad : Bool
def VO.l (o : VO) : List Value := [.int .i64 o.k, .int .i64 o.q.op, .int .i64 o.q.page, .int .i64 o.q.off, .int .i64 o.q.len, .slice o.q.b.a o.q.b.xs.length o.q.b.cap, .bool o.bad]
structure VO.Ok (o : VO) : Prop where
  k : i64s o.k
  q : o.q.Ok
  cap : o.q.b.xs.length ≤ o.q.b.cap
def VO.rq (o : VO) : Rq := if o.q.len.tmod 9 = 8 then ⟨o.q.op, o.q.page, o.q.off, o.q.len, o.q.b.xs.take 34⟩ else gq o.q.q 4
def vDo (d : Nat) (s : Tn × Int) (o : VO) : Tn × Int :=
  if 6 ≤ around o.k 13 ∧ around o.k 13 ≤ 10 then (vOver s.1 o.bad o.q.b.xs (s.2 + 1), s.2 + 1)
  else if around o.k 13 = 11 then (s.1.taken, s.2)
  else if around o.k 13 = 12 then (if o.bad = true then s.1.crash else s.1, s.2)
  else ((s.1.submit d o.rq s.2).1, s.2)
theorem vOver_inv {d : Nat} {t : Tn} (h : TInv d t) (bad : Bool) {bs : List Int} (hu : u8ok bs) (tick : Int) : TInv d (vOver t bad bs tick) := by
  unfold vOver
  split
  · exact h
  · exact over_inv h ‹_› _ (fun _ => ⟨fill_ok hu 16, fill_len _ _⟩) tick
theorem rq_u8 {o : VO} (h : o.Ok) : u8ok o.rq.data ∧ o.rq.data.length ≤ 1000000 ∧ i64s o.rq.off ∧ i64s o.rq.op := by
  unfold VO.rq
  split
  · refine ⟨fun b hb => h.q.u8 b (List.mem_of_mem_take hb), ?_, h.q.inn.off, h.q.inn.op⟩
    simp only [List.length_take]; omega
  · have hg := gq_ok o.q.q 4 (by decide) h.q.u8
    have := hg.op
    exact ⟨hg.u8, hg.dl, hg.off, by constructor <;> omega⟩
theorem vDo_inv {d : Nat} {s : Tn × Int} (h : TInv d s.1) {o : VO} (ho : o.Ok) : TInv d (vDo d s o).1 := by
  unfold vDo
  split
  · exact vOver_inv h _ ho.q.u8 _
  · split
    · exact taken_inv h
    · split
      · split
        · exact crash_inv h
        · exact h
      · exact submit_inv h (fun hc => check_ok hc (rq_u8 ho).1) _
theorem over_ids' (t : Tn) (e : Int) (bs : List Int) (tick : Int) : (t.over e bs tick).ids = t.ids := by
  unfold Tn.over Tn.go
  rw [run_ids, tell_ids]
theorem submit_ids' (d : Nat) (t : Tn) (q : Rq) (tick : Int) : (t.submit d q tick).1.ids ≤ t.ids + 1 := by
  unfold Tn.submit
  split
  · simp only; omega
  · split
    · simp only; omega
    · show (Tn.go _ tick).ids ≤ _
      unfold Tn.go
      rw [run_ids]
      exact Int.le_refl _
theorem vDo_ids (d : Nat) (s : Tn × Int) (o : VO) : (vDo d s o).1.ids ≤ s.1.ids + 1 ∧ (vDo d s o).2 ≤ s.2 + 1 ∧ s.2 ≤ (vDo d s o).2 := by
  unfold vDo vOver
  split
  · refine ⟨?_, Int.le_refl _, by simp only; omega⟩
    simp only
    split
    · omega
    · rw [over_ids']; omega
  · split
    · exact ⟨by show s.1.ids ≤ _; omega, by simp only; omega, Int.le_refl _⟩
    · split
      · refine ⟨?_, by simp only; omega, Int.le_refl _⟩
        simp only
        split
        · show s.1.ids ≤ _; omega
        · omega
      · exact ⟨submit_ids' _ _ _ _, by simp only; omega, Int.le_refl _⟩
theorem VDoes_spec (d : Nat) (s : Tn × Int) (hi : TInv d s.1) (hid : s.1.ids < 1000000) (htk : 0 ≤ s.2 ∧ s.2 ≤ 1000000) (b bt bp : Nat) (Hw Ht Hp : HL) (hv : VAt d s.1 s.2 b bt bp Hw Ht Hp) (o : VO) (ho : o.Ok) :
    Ctr Tryz.prog 15 [.pointer (some ⟨b, 0, none⟩), .agg o.l.toArray] [Hw, Ht, Hp] o.q.b.ro (fun v L' => ∃ Hw' Ht' Hp', v = .bool true ∧ L' = [Hw', Ht', Hp'] ∧ VAt d (vDo d s o).1 (vDo d s o).2 b bt bp Hw' Ht' Hp') := by
  obtain ⟨t, tick⟩ := s
  simp only at hi hid htk hv
  have hA := Around_spec o.k 13 ho.k (by decide)
  have hr := around_range o.k 13 (by decide)
  have hOv := VOver_spec d t hi (by omega) tick htk b bt bp Hw Ht Hp hv o.bad o.q.b.xs ho.q.u8 o.q.b.a o.q.b.cap o.q.b.ro ho.q.ro
  have hOt := VOut_spec d t (by have := hi.ids; omega) tick b bt bp Hw Ht Hp hv
  obtain ⟨g1, g2, g3, g4⟩ := rq_u8 ho
  have hSu := fun aq cq rq hrq => VSubmit_spec d t hi hid tick b bt bp Hw Ht Hp hv o.rq g1 g2 g3 g4 aq cq rq hrq
  have hG := Good_spec o.q.q ho.q.inn 4 (by decide) o.q.b.a o.q.b.cap o.q.b.ro ho.q.ro
  have hF := RFew_spec o.q.q o.q.b.a o.q.b.cap ho.cap o.q.b.ro ho.q.ro
  have hdo : vDo d (t, tick) o = vDo d (t, tick) o := rfl
  conv at hdo => rhs; unfold vDo
  generalize vDo d (t, tick) o = out at *
  have hrq : o.rq = o.rq := rfl
  conv at hrq => rhs; unfold VO.rq
  generalize o.rq = rq at *
  clear g1 g2 g3 g4
  obtain ⟨ok, ⟨o1, o2, o3, o4, ⟨os, oa, oc, oro⟩⟩, obad⟩ := o
  simp only [QD.q] at *
  generalize around ok 13 = k at *
  simp only [VO.l]
  rcases (show k = 6 ∨ k = 7 ∨ k = 8 ∨ k = 9 ∨ k = 10 ∨ k = 11 ∨ k = 12 ∨ k < 6 by omega) with rfl | rfl | rfl | rfl | rfl | rfl | rfl | hk
  case inr.inr.inr.inr.inr.inr.inr =>
    rw [if_neg (by omega), if_neg (by omega), if_neg (by omega)] at hdo
    subst hdo
    have n6 : ¬ k = 6 := by omega
    have n7 : ¬ k = 7 := by omega
    have n8 : ¬ k = 8 := by omega
    have n9 : ¬ k = 9 := by omega
    have n10 : ¬ k = 10 := by omega
    have n11 : ¬ k = 11 := by omega
    have n12 : ¬ k = 12 := by omega
    generalize gq ⟨o1, o2, o3, o4, oc⟩ 4 = gg at *
    obtain ⟨v1, v2, v3, v4, v5⟩ := gg
    simp only [Rq.v] at hG hF
    rcases Classical.em (o4.tmod 9 = 8) with h9 | h9
    case' inl => rw [if_pos h9] at hrq
    case' inr => rw [if_neg h9] at hrq
    all_goals
      subst hrq
      refine Ctr.enter (n := 58) [.tmp 4] [(0, _), (1, _)] Tryz.func15 rfl rfl rfl (lb rfl) Tryz.call15 ⟨rfl, rfl, trivial⟩ ?_
      intro cx fin fin0
      refine aG ?_
      repeat (first | refine gx ?_ | refine gN fun _ => ?_ | refine gB fun _ => ?_ | fail)
      refine aC (o := hA) (h := ?_)
      rintro _ _ ⟨rfl, rfl⟩
      refine aG ?_
      repeat (first | refine gx ?_ | refine gN fun _ => ?_ | refine gB fun _ => ?_ | fail)
      refine aC (o := hG) (h := ?_) (hro := RoIn.same)
      rintro _ _ ⟨a5, c5, H5, rfl, rfl, h5⟩
      refine aG ?_
      repeat (first | refine gx ?_ | refine gN fun _ => ?_ | refine gB fun _ => ?_ | fail)
      refine aV (OpVal.rem rfl rfl (by decide) rfl) ?_
      repeat (first | refine gh h9 ?_ | refine gN fun _ => ?_ | refine gB fun _ => ?_ | fail)
    case' inl =>
      refine aC (o := hF) (h := ?_) (hro := RoIn.same)
      rintro _ _ ⟨a6, c6, H6, rfl, rfl, h6⟩
      refine aG ?_
      repeat (first | refine gx ?_ | refine gN fun _ => ?_ | refine gB fun _ => ?_ | fail)
      have hS2 := hSu a6 c6 H6 h6
    case' inr =>
      have hS2 := hSu a5 c5 H5 h5
    all_goals
      simp only [Rq.v] at hS2
      refine aC (o := hS2) (h := ?_)
      rintro _ _ ⟨Hw2, Ht2, Hp2, rfl, rfl, hv2⟩
      refine aG ?_
      repeat (first | refine gx ?_ | refine gN fun _ => ?_ | refine gB fun _ => ?_ | fail)
      refine W.ret (fin _ _ (FinOk.first 3 (.tmp rfl .nil) rfl ?_))
      exact ⟨_, _, _, rfl, rfl, hv2⟩
  case inr.inr.inr.inr.inr.inr.inl =>
    rw [if_neg (by decide), if_neg (by decide), if_pos rfl] at hdo
    cases obad with
    | false =>
      rw [if_neg (by simp)] at hdo
      subst hdo
      refine Ctr.enter (n := 58) [.tmp 4] [(0, _), (1, _)] Tryz.func15 rfl rfl rfl (lb rfl) Tryz.call15 ⟨rfl, rfl, trivial⟩ ?_
      intro cx fin fin0
      refine aG ?_
      repeat (first | refine gx ?_ | refine gN fun _ => ?_ | refine gB fun _ => ?_ | fail)
      refine aC (o := hA) (h := ?_)
      rintro _ _ ⟨rfl, rfl⟩
      refine aG ?_
      repeat (first | refine gx ?_ | refine gN fun _ => ?_ | refine gB fun _ => ?_ | fail)
      refine W.order [1, 1, 1] rfl ?_
      refine W.ret (fin _ _ (FinOk.first 3 (.tmp rfl .nil) rfl ?_))
      exact ⟨_, _, _, rfl, rfl, hv⟩
    | true =>
      rw [if_pos rfl] at hdo
      subst hdo
      obtain ⟨l, D, rfl, hdoc, ht, hp⟩ := hv
      have hCr := TCrash_spec d t hi bt bp Ht ht Hp hp
      have hRC := RCrash_spec d t hi.mi.inv.ok.2.2 l D hdoc
      obtain ⟨a, c, r, at_, ct, rt, ag, cg, rg, aj, cj, rj, jl, ao, co, ro, rfl, -⟩ := hdoc
      refine Ctr.enter (n := 58) [.tmp 4] [(0, _), (1, _)] Tryz.func15 rfl rfl rfl (lb rfl) Tryz.call15 ⟨rfl, rfl, trivial⟩ ?_
      intro cx fin fin0
      refine aG ?_
      repeat (first | refine gx ?_ | refine gN fun _ => ?_ | refine gB fun _ => ?_ | fail)
      refine aC (o := hA) (h := ?_)
      rintro _ _ ⟨rfl, rfl⟩
      refine aG ?_
      repeat (first | refine gx ?_ | refine gN fun _ => ?_ | refine gB fun _ => ?_ | fail)
      refine W.order [1, 1, 1, 0] rfl ?_
      refine spl2 rfl ?_
      refine aG ?_
      repeat (first | refine gx ?_ | refine gN fun _ => ?_ | refine gB fun _ => ?_ | fail)
      refine aC (o := hRC) (h := ?_) (hro := RoIn.own 1 rfl)
      rintro _ _ ⟨H2, l2, rfl, rfl, hd2⟩
      refine aG ?_
      have hd3 := hd2
      obtain ⟨a2, c2, r2, at2, ct2, rt2, ag2, cg2, rg2, aj2, cj2, rj2, jl2, ao2, co2, ro2, rfl, -⟩ := hd2
      repeat (first | refine gx ?_ | refine gN fun _ => ?_ | refine gB fun _ => ?_ | fail)
      refine aC (o := hCr) (h := ?_)
      rintro _ _ ⟨Ht2, Hp2, rfl, ht2, hp2⟩
      refine aG ?_
      repeat (first | refine gx ?_ | refine gN fun _ => ?_ | refine gB fun _ => ?_ | fail)
      refine W.groupV [3, 2, 2] rfl ?_
      refine W.ret (fin _ _ (FinOk.first 3 (.tmp rfl .nil) rfl ?_))
      exact ⟨_, _, _, rfl, rfl, _, _, rfl, hd3, ht2, hp2⟩
  case inr.inr.inr.inr.inr.inl =>
    rw [if_neg (by decide), if_pos rfl] at hdo
    subst hdo
    refine Ctr.enter (n := 58) [.tmp 4] [(0, _), (1, _)] Tryz.func15 rfl rfl rfl (lb rfl) Tryz.call15 ⟨rfl, rfl, trivial⟩ ?_
    intro cx fin fin0
    refine aG ?_
    repeat (first | refine gx ?_ | refine gN fun _ => ?_ | refine gB fun _ => ?_ | fail)
    refine aC (o := hA) (h := ?_)
    rintro _ _ ⟨rfl, rfl⟩
    refine aG ?_
    repeat (first | refine gx ?_ | refine gN fun _ => ?_ | refine gB fun _ => ?_ | fail)
    refine aC (o := hOt) (h := ?_)
    rintro _ _ ⟨Hw2, Ht2, Hp2, rfl, rfl, hv2⟩
    refine aG ?_
    repeat (first | refine gx ?_ | refine gN fun _ => ?_ | refine gB fun _ => ?_ | fail)
    refine W.ret (fin _ _ (FinOk.first 3 (.tmp rfl .nil) rfl ?_))
    exact ⟨_, _, _, rfl, rfl, hv2⟩
  all_goals
    rw [if_pos (by decide)] at hdo
    subst hdo
    refine Ctr.enter (n := 58) [.tmp 4] [(0, _), (1, _)] Tryz.func15 rfl rfl rfl (lb rfl) Tryz.call15 ⟨rfl, rfl, trivial⟩ ?_
    intro cx fin fin0
    refine aG ?_
    repeat (first | refine gx ?_ | refine gN fun _ => ?_ | refine gB fun _ => ?_ | fail)
    refine aC (o := hA) (h := ?_)
    rintro _ _ ⟨rfl, rfl⟩
    refine aG ?_
    repeat (first | refine gx ?_ | refine gN fun _ => ?_ | refine gB fun _ => ?_ | fail)
    refine aC (o := hOv) (h := ?_) (hro := RoIn.same)
    rintro _ _ ⟨Hw2, Ht2, Hp2, rfl, rfl, hv2⟩
    refine aG ?_
    repeat (first | refine gx ?_ | refine gN fun _ => ?_ | refine gB fun _ => ?_ | fail)
    refine W.ret (fin _ _ (FinOk.first 3 (.tmp rfl .nil) rfl ?_))
    exact ⟨_, _, _, rfl, rfl, hv2⟩
end Go.Proofs.YtfajcpnbhnddbaaGreat
namespace Go.Proofs.YtfajcpnbhnddbaaGreat
open Go Go.Sl Go.IntWalk
set_option maxHeartbeats 8000000
set_option maxRecDepth 20000
set_option linter.unusedVariables false
def VO.of (q : Int × (Int × Int × Int × Int × SlD Int × Unit) × Bool × Unit) : VO := ⟨q.1, QD.of q.2.1, q.2.2.1⟩
def vros (os : List VO) : HL := os.flatMap (·.q.b.ro)
section
variable {H : Type} {enc : TypeId × Value → H} {w : World} {spare : Nat → Bool} {held : Bool}
theorem opens_V : ∃ f Ok, Opens enc Tryz.prog w spare held 65 7 f Ok ∧ ∀ q, f q = (VO.of q).l ∧ (Ok q → (VO.of q).Ok ∧ ∀ p ∈ (VO.of q).q.b.ro, w.heap[p.1]? = some p.2) := by
  have hi : Opens enc Tryz.prog w spare held 3 1 (fun i => [Value.int .i64 i]) i64s := Opens.int Tryz.underlying3 (by kernel_rfl) (fun _ h => wf_i64 h)
  have hb : Opens enc Tryz.prog w spare held 5 1 (fun i => [Value.int .u8 i]) (fun x => 0 ≤ x ∧ x < 256) := Opens.int Tryz.underlying5 (by kernel_rfl) (fun _ h => wf_u8 h)
  have hk : Opens enc Tryz.prog w spare held 4 1 (fun b => [Value.bool b]) (fun _ => True) := Opens.bool Tryz.underlying4 (by kernel_rfl)
  have h1 : Tryz.prog.cellsOf 3 = 1 := by kernel_rfl
  have h2 : Tryz.prog.cellsOf 34 = 1 := by kernel_rfl
  have h3 : Tryz.prog.cellsOf 4 = 1 := by kernel_rfl
  have h4 : Tryz.prog.cellsOf 48 = 5 := by kernel_rfl
  refine ⟨_, _, Opens.st (OpenF.cons hi (OpenF.cons (Opens.st (OpenF.cons hi (OpenF.cons hi (OpenF.cons hi (OpenF.cons hi (OpenF.cons (Opens.sl hb (by decide) Tryz.underlying34 (by kernel_rfl)) OpenF.nil))))) Tryz.underlying48 (by kernel_rfl) (by kernel_rfl) ?_) (OpenF.cons hk OpenF.nil))) Tryz.underlying65 (by kernel_rfl) (by kernel_rfl) ?_, fun q => ⟨rfl, ?_⟩⟩
  · intro q hq
    simp only [List.mem_cons, List.not_mem_nil, or_false] at hq
    rcases hq with rfl | rfl | rfl | rfl | rfl <;> first | exact h1 | exact h2
  · intro q hq
    simp only [List.mem_cons, List.not_mem_nil, or_false] at hq
    rcases hq with rfl | rfl | rfl <;> first | exact h1 | exact h3 | exact h4
  · rintro ⟨k1, ⟨g1, g2, g3, g4, g6, _⟩, k3, _⟩
    exact ⟨⟨k1, ⟨⟨g1, g2, g3, g4⟩, g6.ro, g6.all⟩, g6.cap⟩, g6.mem⟩
theorem open_Vs {t : Nat} (ht : Tryz.prog.underlying t = some (.slice 65)) (hct : Tryz.prog.cellsOf t = 1) {r : Reach} {b0 : Nat} {v : Value} {d : DataW H} {ps : List MemPlace} (hok : Value.okWide Tryz.prog w r b0 t v) (h : DataW.Trod enc Tryz.prog w 0 spare held t v d ps) :
    ∃ (os : List VO) (a : Option Addr) (cap : Nat) (ro : HL), v = .slice a os.length cap ∧ RoSl 7 (os.flatMap VO.l) a os.length ro ∧ (∀ p ∈ ro ++ vros os, w.heap[p.1]? = some p.2) ∧ (∀ o ∈ os, VO.Ok o) := by
  obtain ⟨f, Ok, hop, hq⟩ := opens_V (enc := enc) (w := w) (spare := spare) (held := held)
  obtain ⟨s, rfl, hs⟩ := Opens.argSl hop (by decide) ht hct hok h
  refine ⟨s.xs.map VO.of, s.a, s.cap, s.ro, by rw [List.length_map], ?_, fun p hp => ?_, fun o ho => ?_⟩
  · have e : (s.xs.map VO.of).flatMap VO.l = s.xs.flatMap f := by
      rw [List.flatMap_map]
      congr 1
      funext x
      exact ((hq x).1).symm
    rw [e, List.length_map]
    exact hs.ro
  · rcases List.mem_append.1 hp with hp | hp
    · exact hs.mem p hp
    · obtain ⟨o, ho, hpo⟩ := List.mem_flatMap.1 hp
      obtain ⟨x, hx, rfl⟩ := List.mem_map.1 ho
      exact ((hq x).2 (hs.all x hx)).2 p hpo
  · obtain ⟨x, hx, rfl⟩ := List.mem_map.1 ho
    exact ((hq x).2 (hs.all x hx)).1
end
theorem TenantPlays_spec (n : Int) (hn : i64s n) (dp : Int) (hdp : i64s dp) (qs : List VO) (hqs : ∀ o ∈ qs, VO.Ok o) (a : Option Addr) (c : Nat) (ro : HL) (hro : RoSl 7 (qs.flatMap VO.l) a qs.length ro) :
    Ctr Tryz.prog 4 [.int .i64 n, .int .i64 dp, .slice a qs.length c] [] (ro ++ vros qs) (fun v L' => v = .bool true ∧ L' = []) := by
  have rn := around_range n 3 (by decide)
  have rd := around_range dp 4 (by decide)
  have hA := Around_spec n 3 hn (by decide)
  have hA2 := Around_spec dp 4 hdp (by decide)
  obtain ⟨k, hk⟩ : ∃ k : Nat, 1 + around n 3 = (k : Int) := ⟨(1 + around n 3).toNat, by omega⟩
  obtain ⟨d, hd⟩ : ∃ d : Nat, 1 + around dp 4 = (d : Int) := ⟨(1 + around dp 4).toNat, by omega⟩
  have hk1 : 1 ≤ k := by omega
  have hk64 : k ≤ 64 := by omega
  have hd1 : 1 ≤ d := by omega
  have hd8 : d ≤ 8 := by omega
  have hB := VBegin_spec k d hk1 hk64 hd1 hd8 4 (by decide) (by decide)
  have hL := VLives_spec
  generalize around n 3 = an at *
  generalize around dp 4 = ad at *
  refine Ctr.enter (n := 45) [.tmp 6] [(0, _), (1, _), (2, _)] Tryz.func4 rfl rfl rfl (lb rfl) Tryz.call4 ⟨rfl, rfl, rfl, trivial⟩ ?_
  intro cx fin fin0
  refine aG ?_
  repeat (first | refine gx ?_ | refine gN fun _ => ?_ | refine gB fun _ => ?_ | fail)
  refine aC (o := hA) (h := ?_)
  rintro _ _ ⟨rfl, rfl⟩
  refine aG ?_
  repeat (first | refine gx ?_ | refine gN fun _ => ?_ | refine gB fun _ => ?_ | fail)
  refine aC (o := hA2) (h := ?_)
  rintro _ _ ⟨rfl, rfl⟩
  refine aG ?_
  repeat (first | refine gx ?_ | refine gN fun _ => ?_ | refine gB fun _ => ?_ | fail)
  rw [hk, hd]
  refine aC (o := hB) (h := ?_)
  rintro _ _ ⟨b, bt, bp, Hw, Ht, Hp, rfl, rfl, hv⟩
  refine aG ?_
  repeat (first | refine gx ?_ | refine gN fun _ => ?_ | refine gB fun _ => ?_ | fail)
  refine aLp (fun k1 ρ1 L1 => ∃ (i : Nat) (s : Tn × Int) (Hw Ht Hp : HL), i ≤ 24 ∧ TInv d s.1 ∧ s.1.ids ≤ (i : Int) ∧ 0 ≤ s.2 ∧ s.2 ≤ (i : Int) ∧ VAt d s.1 s.2 b bt bp Hw Ht Hp ∧ k1 = 24 - i ∧ ρ1 = [(8, .int .i64 (i : Int)), (7, .pointer (some ⟨b, 0, none⟩)), (2, .slice a qs.length c)] ∧ L1 = [Hw, Ht, Hp]) (o := ⟨0, (Tn.new k 4, 0), Hw, Ht, Hp, by decide, new_inv d k hk1 hk64 4, Int.le_refl _, Int.le_refl _, Int.le_refl _, hv, rfl, rfl, rfl⟩) (h := ?_)
  clear hv
  rintro k1 ρ1 L1 ⟨i, s, Hw, Ht, Hp, hi24, hi, hid, ht0, ht1, hv, rfl, rfl, rfl⟩
  refine aG ?_
  by_cases hc : ((i : Int) < (qs.length : Int)) ∧ (i : Int) < 24
  case' neg =>
    have hO := VOut_spec d s.1 (by have := hi.ids; omega) s.2 b bt bp Hw Ht Hp hv
    rcases (show ¬ ((i : Int) < (qs.length : Int)) ∨ (((i : Int) < (qs.length : Int)) ∧ ¬ (i : Int) < 24) by omega) with hx | ⟨hx1, hx2⟩
    all_goals
      repeat (first | refine gx ?_ | refine gN fun _ => ?_ | refine gB fun _ => ?_ | fail)
      refine aC (o := hO) (h := ?_)
      rintro _ _ ⟨Hw2, Ht2, Hp2, rfl, rfl, hv2⟩
      refine aG ?_
      repeat (first | refine gx ?_ | refine gN fun _ => ?_ | refine gB fun _ => ?_ | fail)
      refine aC (o := hL) (h := ?_) (hro := RoIn.nil)
      rintro _ _ ⟨rfl, rfl⟩
      refine aG ?_
      repeat (first | refine gx ?_ | refine gN fun _ => ?_ | refine gB fun _ => ?_ | fail)
      refine W.ret (fin _ _ (FinOk.mk' ([]) (.tmp rfl .nil) (by repeat (first | exact Sel.nil | (apply Sel.cons; (repeat (first | exact Pick.here | apply Pick.there))))) rfl ?_))
      exact ⟨rfl, rfl⟩
  obtain ⟨hc1, hc2⟩ := hc
  have hil : i < qs.length := by omega
  obtain ⟨bx, ox, lx, ex, frx, rfl, rfl, hseg, -⟩ := RoSl.at (f := VO.l) (fun _ => rfl) hro hil
  have hOk := hqs _ (List.getElem_mem hil)
  have hmem : ∀ q ∈ qs[i].q.b.ro, q ∈ vros qs := fun q hq => List.mem_flatMap.2 ⟨_, List.getElem_mem hil, hq⟩
  generalize qs[i] = o at hseg hOk hmem
  have hD := VDoes_spec d s hi (by omega) ⟨ht0, by omega⟩ b bt bp Hw Ht Hp hv o hOk
  have hinv := vDo_inv hi hOk
  have hids := vDo_ids d s o
  generalize vDo d s o = s2 at *
  repeat (first | refine gx ?_ | refine gN fun _ => ?_ | refine gB fun _ => ?_ | fail)
  refine aV (OpVal.ixSl tab_ok rfl rfl rfl rfl rfl hil) ?_
  refine aV (OpVal.loadN ty_65.1 ty_65.2 rfl (show At _ _ bx (.cells lx.toArray ex frx) from .inr (by simp)) hseg) ?_
  refine aC (o := hD) (h := ?_) (hro := RoIn.all (fun q hq => by simp [hmem q hq]))
  rintro _ _ ⟨Hw2, Ht2, Hp2, rfl, rfl, hv2⟩
  refine aG ?_
  have hK := VLike_spec d s2.1 hinv s2.2 b bt bp Hw2 Ht2 Hp2 hv2
  repeat (first | refine gx ?_ | refine gN fun _ => ?_ | refine gB fun _ => ?_ | fail)
  refine aC (o := hK) (h := ?_) (hro := RoIn.append (RoIn.own 0 rfl) (RoIn.append (RoIn.own 1 rfl) (RoIn.own 2 rfl)))
  rintro _ _ ⟨rfl, rfl⟩
  refine aG ?_
  repeat (first | refine gx ?_ | refine gN fun _ => ?_ | refine gB fun _ => ?_ | fail)
  refine aR (o := ⟨24 - (i + 1), by omega, i + 1, s2, Hw2, Ht2, Hp2, by omega, hinv, by omega, by omega, by omega, hv2, rfl, rfl, rfl⟩)
end Go.Proofs.YtfajcpnbhnddbaaGreat
namespace Go.Proofs.YtfajcpnbhnddbaaGreat
open Go Go.Sl Go.IntWalk
set_option maxHeartbeats 8000000
set_option maxRecDepth 20000
theorem rq_ok {o p f l : Int} {d : List Int} (h1 : 1 ≤ o ∧ o ≤ 8) (h2 : 0 ≤ p) (h3 : i64s f) (h4 : i64s l) (h5 : u8ok d) (h6 : d.length ≤ 1000000) : (⟨o, p, f, l, d⟩ : Rq).Ok := ⟨h1, h2, h3, h4, h5, h6⟩
theorem doPage_len (p : Pt) (page : Int) (g : Fr → Fr × Int) : (p.doPage page g).1.fs.length = p.fs.length := by
  unfold Pt.doPage
  split
  · simp [Pt.setF]
  · rfl
theorem get_len (p : Pt) (page off n : Int) : (p.get page off n).1.fs.length = p.fs.length := by
  unfold Pt.get
  split
  · simp [Pt.setF]
  · rfl
theorem victim_len (p : Pt) : p.victim.1.fs.length = p.fs.length := setAll_len _ _
theorem release_len (p : Pt) (i : Int) : (p.release i).1.fs.length = p.fs.length := by
  unfold Pt.release
  split
  · rfl
  · split
    · simp
    · rfl
theorem load_len (p : Pt) (i page : Int) (bs : List Int) : (p.load i page bs).1.fs.length = p.fs.length := by
  unfold Pt.load
  split
  · split
    · simp
    · rfl
  · rfl
theorem mStored_len (m : Mc) (p : Pt) (page : Int) : (mStored m p page).1.fs.length = p.fs.length := by
  unfold mStored
  split
  · simp only [release_len, clean_len]
  · simp only [clean_len]
theorem mStep_len (m : Mc) (p : Pt) (bs : List Int) : (mStep m p bs).2.1.fs.length = p.fs.length := by
  unfold mStep
  split
  · exact mStored_len m p _
  · split <;> rfl
theorem mEnd_len (m : Mc) (p : Pt) (e : Int) (bs : List Int) : (mEnd m p e bs).2.1.fs.length = p.fs.length := by
  unfold mEnd
  split
  · rfl
  · split
    · exact mStep_len m p bs
    · simp only
      split
      · rw [doPage_len, load_len, mStep_len]
      · exact mStep_len m p bs
theorem mBegin_len (m : Mc) (p : Pt) (q : Rq) : (mBegin m p q).2.1.fs.length = p.fs.length := by
  unfold mBegin mOp
  split
  · unfold mFetch
    split
    · exact doPage_len _ _ _
    · unfold mMiss
      split
      · exact victim_len p
      · simp only
        split
        · rw [release_len, victim_len]
        · exact victim_len p
  · split
    · exact get_len _ _ _ _
    · split
      · exact doPage_len _ _ _
      · split
        · exact doPage_len _ _ _
        · split
          · rfl
          · split
            · rfl
            · split
              · unfold mDiscard
                split
                · rfl
                · exact release_len _ _
              · rfl
theorem wStep_len (m : Mc) (p : Pt) (q : Rq) (f : Bool) : (wStep m p q f).2.fs.length = p.fs.length := by
  unfold wStep
  split
  · exact mBegin_len _ _ _
  · exact mEnd_len _ _ _ _
theorem mStep_todo (m : Mc) (p : Pt) (bs : List Int) : (mStep m p bs).1.todo = m.todo.tail := by
  unfold mStep
  split
  · rfl
  · split <;> rfl
theorem mEnd_todo (m : Mc) (p : Pt) (bs : List Int) : (mEnd m p 0 bs).1.todo = m.todo.tail := by
  unfold mEnd
  rw [if_neg (by simp)]
  split
  · exact mStep_todo m p bs
  · rename_i h
    rw [mStep_todo] at h
    exact (List.eq_nil_of_length_eq_zero (by omega)).symm
theorem wStep_todo {m : Mc} (p : Pt) (q : Rq) (h : m.todo ≠ []) : (wStep m p q false).1.todo = m.todo.tail := by
  unfold wStep
  rw [if_neg h]
  exact mEnd_todo m p _
def wLoop (q : Rq) : Nat → Mc × Pt → Mc × Pt
  | 0, s => s
  | k + 1, s => wStep (wLoop q k s).1 (wLoop q k s).2 q false
theorem wLoop_todo (q : Rq) (s : Mc × Pt) : ∀ k, k ≤ s.1.todo.length → (wLoop q k s).1.todo.length = s.1.todo.length - k
  | 0, _ => rfl
  | k + 1, h => by
    have := wLoop_todo q s k (by omega)
    show (wStep (wLoop q k s).1 (wLoop q k s).2 q false).1.todo.length = _
    rw [wStep_todo _ _ (by intro h0; rw [h0] at this; simp at this; omega), List.length_tail, this]
    omega
theorem wLoop_fs (q : Rq) (s : Mc × Pt) : ∀ k, (wLoop q k s).2.fs.length = s.2.fs.length
  | 0 => rfl
  | k + 1 => by
    show (wStep (wLoop q k s).1 (wLoop q k s).2 q false).2.fs.length = _
    rw [wStep_len]
    exact wLoop_fs q s k
theorem wStep_inv0 {m : Mc} {p : Pt} (h : MInv m p) {q : Rq} (hq : m.todo = [] → q.Ok) (hu : u8ok q.data) (f : Bool) : MInv (wStep m p q f).1 (wStep m p q f).2 := by
  unfold wStep
  split
  · rename_i ht
    exact begin_inv h ht (hq ht).op.1 (hq ht).op.2 hu
  · rename_i ht
    exact end_inv h ht _ (fill_ok hu 16) (fill_len _ _)
theorem wLoop_inv {q : Rq} (hu : u8ok q.data) {s : Mc × Pt} (h : MInv s.1 s.2) : ∀ k, k ≤ s.1.todo.length → MInv (wLoop q k s).1 (wLoop q k s).2
  | 0, _ => h
  | k + 1, hk => wStep_inv0 (wLoop_inv hu h k (by omega)) (fun h0 => by
      have := wLoop_todo q s k (by omega)
      rw [h0] at this
      simp at this
      omega) hu false
def wRun (m : Mc) (p : Pt) (q : Rq) : Mc × Pt := wLoop q (wStep m p q false).1.todo.length (wStep m p q false)
theorem wRun_inv {m : Mc} {p : Pt} (h : MInv m p) {q : Rq} (hq : q.Ok) : MInv (wRun m p q).1 (wRun m p q).2 := wLoop_inv hq.u8 (wStep_inv h hq false) _ (Nat.le_refl _)
theorem wRun_todo (m : Mc) (p : Pt) (q : Rq) : (wRun m p q).1.todo = [] := by
  have := wLoop_todo q (wStep m p q false) _ (Nat.le_refl _)
  exact List.eq_nil_of_length_eq_zero (by unfold wRun; omega)
theorem wRun_len (m : Mc) (p : Pt) (q : Rq) : (wRun m p q).2.fs.length = p.fs.length := by
  unfold wRun
  rw [wLoop_fs, wStep_len]
theorem begin_todo {m : Mc} (p : Pt) (q : Rq) (h : m.todo = []) : (mBegin m p q).1.todo.length ≤ 4 ∨ (mBegin m p q).1.todo.length ≤ 2 * p.fs.length + 1 := by
  have hs : ∀ page, (planFlush (selD p page p.dirty)).length ≤ 2 * p.fs.length + 1 := fun page => by
    have h1 := selD_len p page p.dirty
    have h2 := dirty_len p
    unfold planFlush
    rw [List.length_append, pages_len, List.length_singleton]
    omega
  have hz : m.todo.length ≤ 4 := by rw [h]; decide
  unfold mBegin mOp
  split
  · unfold mFetch
    split
    · exact .inl hz
    · unfold mMiss
      split
      · exact .inl hz
      · exact .inl (plan_len _ _ _)
  · split
    · exact .inl hz
    · split
      · exact .inl hz
      · split
        · exact .inl hz
        · split
          · exact .inr (hs _)
          · split
            · exact .inr (hs _)
            · split <;> exact .inl hz
end Go.Proofs.YtfajcpnbhnddbaaGreat
namespace Go.Proofs.YtfajcpnbhnddbaaGreat
open Go Go.Sl Go.IntWalk
set_option maxHeartbeats 8000000
set_option maxRecDepth 20000
set_option linter.unusedVariables false
theorem run_same (tick : Int) : ∀ (n : Nat) (t : Tn), (t.run tick n).p.fs.length = t.p.fs.length ∧ (t.run tick n).pages = t.pages
  | 0, t => ⟨rfl, rfl⟩
  | n + 1, t => by
    unfold Tn.run
    split
    · have h := run_same tick n (t.begun tick)
      rw [h.1, h.2]
      unfold Tn.begun Tn.tell
      split <;> exact ⟨mBegin_len _ _ _, rfl⟩
    · exact ⟨rfl, rfl⟩
theorem submit_same (d : Nat) (t : Tn) (q : Rq) (tick : Int) : (t.submit d q tick).1.p.fs.length = t.p.fs.length ∧ (t.submit d q tick).1.pages = t.pages := by
  unfold Tn.submit
  split
  · exact ⟨rfl, rfl⟩
  · split
    · exact ⟨rfl, rfl⟩
    · exact run_same tick _ _
theorem over_same (t : Tn) (e : Int) (bs : List Int) (tick : Int) : (t.over e bs tick).p.fs.length = t.p.fs.length ∧ (t.over e bs tick).pages = t.pages := by
  unfold Tn.over Tn.go
  have h := run_same tick ((({ t with m := (mEnd t.m t.p e bs).1, p := (mEnd t.m t.p e bs).2.1 } : Tn).tell (mEnd t.m t.p e bs).2.2 tick)).js.length (({ t with m := (mEnd t.m t.p e bs).1, p := (mEnd t.m t.p e bs).2.1 } : Tn).tell (mEnd t.m t.p e bs).2.2 tick)
  rw [h.1, h.2]
  unfold Tn.tell
  split <;> exact ⟨mEnd_len _ _ _ _, rfl⟩
theorem over_ids (t : Tn) (e : Int) (bs : List Int) (tick : Int) : (t.over e bs tick).ids = t.ids := by
  unfold Tn.over Tn.go
  rw [run_ids, tell_ids]
theorem submit_ids {d : Nat} {t : Tn} {q : Rq} (hq : rcheck q t.pages = 0) (hd : ¬ d ≤ t.js.length) (tick : Int) : (t.submit d q tick).1.ids = t.ids + 1 := by
  unfold Tn.submit
  rw [if_neg (by rw [hq]; simp), if_neg hd]
  exact run_ids _ _ _
theorem gq_check (q : Rq) (n : Int) (hn : 0 < n) : rcheck (gq q n) n = 0 := by
  have h0 := around_range q.off 33 (by decide)
  have h1 := around_range q.page n hn
  have h2 := around_range q.len 33 (by decide)
  have h3 := around_range q.len (33 - around q.off 33) (by omega)
  have h4 : ((fill q.data (around q.len 33).toNat).take (32 - around q.off 33).toNat).length ≤ (32 - around q.off 33).toNat := by rw [List.length_take]; omega
  unfold gq
  generalize (fill q.data (around q.len 33).toNat).take (32 - around q.off 33).toNat = dat at *
  generalize around q.len (33 - around q.off 33) = ln at *
  generalize around q.off 33 = of at *
  generalize around q.page n = pg at *
  rcases gop_cases q.op with h | h | h | h | h | h | h | h <;> rw [h]
  all_goals
    unfold rcheck rnamed
    simp
    try omega
end Go.Proofs.YtfajcpnbhnddbaaGreat
namespace Go.Proofs.YtfajcpnbhnddbaaGreat
open Go Go.Sl Go.IntWalk
set_option maxHeartbeats 8000000
set_option maxRecDepth 20000
set_option linter.unusedVariables false
theorem new_empty (n : Nat) : (Pt.new n).empty = true := by
  unfold Pt.empty Pt.new
  simp only
  induction n with
  | zero => rfl
  | succ n ih => rw [List.replicate_succ, List.all_cons, ih, Bool.and_true]; exact (eqFr_iff _ _).2 rfl
theorem vDo_same (d : Nat) (s : Tn × Int) (o : VO) : (vDo d s o).1.p.fs.length = s.1.p.fs.length ∧ (vDo d s o).1.pages = s.1.pages := by
  unfold vDo vOver
  split
  · simp only
    split
    · exact ⟨rfl, rfl⟩
    · exact over_same _ _ _ _
  · split
    · exact ⟨rfl, rfl⟩
    · split
      · simp only
        split
        · exact ⟨by simp [Tn.crash, Pt.new], rfl⟩
        · exact ⟨rfl, rfl⟩
      · exact submit_same _ _ _ _
def pq (p : Int) : Rq := ⟨1, p, 0, 0, []⟩
theorem z64 : i64s 0 := ⟨by decide, by decide⟩
theorem o64 : i64s 1 := ⟨by decide, by decide⟩
theorem pq_check (p : Int) (h : 0 ≤ p ∧ p < 4) : rcheck (pq p) 4 = 0 := by
  unfold rcheck
  rw [if_neg (by
    rintro (h | h)
    · exact h (by decide : (1 : Int) ≤ 1 ∧ (1 : Int) ≤ 8)
    · exact h rfl), if_neg (by show ¬ (_ ∧ _ ∧ (p < 0 ∨ 4 ≤ p)); omega), if_neg (by show ¬ ((0 : Int) < 0 ∨ (32 : Int) < 0 ∨ (0 : Int) < 0 ∨ (32 : Int) - 0 < 0 ∨ (32 : Int) - 0 < ((0 : Nat) : Int)); omega)]
theorem crash_busy {t : Tn} (hp : t.p.fs.length = 2) (hpg : t.pages = 4) (d : Nat) (h1 : 1 ≤ d) (p : Int) (h : 0 ≤ p ∧ p < 4) (tick : Int) : (t.crash.taken.submit d (pq p) tick).1.m.todo ≠ [] := by
  have hc := pq_check p h
  have hb : (mBegin Mc.idle (Pt.new 2) (pq p)).2.2.done = false ∧ (mBegin Mc.idle (Pt.new 2) (pq p)).1.todo ≠ [] := by
    have e : (mBegin Mc.idle (Pt.new 2) (pq p)).2.2.done = false := rfl
    exact ⟨e, (begin_done (p := Pt.new 2) rfl (pq p)).2.2 e⟩
  unfold Tn.submit
  rw [if_neg (show ¬ rcheck (pq p) t.crash.taken.pages ≠ 0 by rw [show t.crash.taken.pages = 4 from hpg, hc]; simp), if_neg (show ¬ d ≤ t.crash.taken.js.length by show ¬ d ≤ 0; omega)]
  show (Tn.go _ tick).m.todo ≠ []
  rw [go_begun (t := { t.crash.taken with js := t.crash.taken.js ++ [(t.crash.taken.ids + 1, pq p)], ids := t.crash.taken.ids + 1 }) (show t.crash.taken.m.todo = [] from rfl) (by simp) tick]
  have e : ∀ u : Tn, u.m = Mc.idle → u.p = Pt.new 2 → (u.js.headD noJob).2 = pq p → (u.begun tick).m.todo ≠ [] := by
    intro u u1 u2 u3
    unfold Tn.begun Tn.tell
    rw [u1, u2, u3]
    rw [if_neg (by rw [hb.1]; simp)]
    exact hb.2
  have e2 := e { t.crash.taken with js := t.crash.taken.js ++ [(t.crash.taken.ids + 1, pq p)], ids := t.crash.taken.ids + 1 } rfl (by show Pt.new t.p.fs.length = _; rw [hp]) rfl
  rw [go_quiet (.inl e2)]
  exact e2
theorem TenantCrash_spec (qs : List VO) (hqs : ∀ o ∈ qs, VO.Ok o) (a : Option Addr) (c : Nat) (ro : HL) (hro : RoSl 7 (qs.flatMap VO.l) a qs.length ro) (pg : Int) (hpg : i64s pg) :
    Ctr Tryz.prog 5 [.slice a qs.length c, .int .i64 pg] [] (ro ++ vros qs) (fun v L' => v = .bool true ∧ L' = []) := by
  have rp := around_range pg 4 (by decide)
  have hA := Around_spec pg 4 hpg (by decide)
  have hB := VBegin_spec 2 3 (by decide) (by decide) (by decide) (by decide) 4 (by decide) (by decide)
  have hL := VLives_spec
  generalize around pg 4 = p4 at *
  refine Ctr.enter (n := 112) [.tmp 4] [(0, _), (1, _)] Tryz.func5 rfl rfl rfl (lb rfl) Tryz.call5 ⟨rfl, rfl, trivial⟩ ?_
  intro cx fin fin0
  refine aG ?_
  repeat (first | refine gx ?_ | refine gN fun _ => ?_ | refine gB fun _ => ?_ | fail)
  refine aC (o := hB) (h := ?_)
  rintro _ _ ⟨b, bt, bp, Hw, Ht, Hp, rfl, rfl, hv⟩
  refine aG ?_
  repeat (first | refine gx ?_ | refine gN fun _ => ?_ | refine gB fun _ => ?_ | fail)
  refine aLp (fun k1 ρ1 L1 => ∃ (i : Nat) (s : Tn × Int) (Hw Ht Hp : HL), i ≤ 16 ∧ TInv 3 s.1 ∧ s.1.ids ≤ (i : Int) ∧ 0 ≤ s.2 ∧ s.2 ≤ (i : Int) ∧ s.1.p.fs.length = 2 ∧ s.1.pages = 4 ∧ VAt 3 s.1 s.2 b bt bp Hw Ht Hp ∧ k1 = 16 - i ∧ ρ1 = [(6, .int .i64 (i : Int)), (5, .pointer (some ⟨b, 0, none⟩)), (0, .slice a qs.length c), (1, .int .i64 pg)] ∧ L1 = [Hw, Ht, Hp]) (o := ⟨0, (Tn.new 2 4, 0), Hw, Ht, Hp, by decide, new_inv 3 2 (by decide) (by decide) 4, Int.le_refl _, Int.le_refl _, Int.le_refl _, rfl, rfl, hv, rfl, rfl, rfl⟩) (h := ?_)
  clear hv
  rintro k1 ρ1 L1 ⟨i, s, Hw, Ht, Hp, hi24, hi, hid, ht0, ht1, hfs, hpgs, hv, rfl, rfl, rfl⟩
  refine aG ?_
  by_cases hc : ((i : Int) < (qs.length : Int)) ∧ (i : Int) < 16
  case' pos =>
    obtain ⟨hc1, hc2⟩ := hc
    have hil : i < qs.length := by omega
    obtain ⟨bx, ox, lx, ex, frx, rfl, rfl, hseg, -⟩ := RoSl.at (f := VO.l) (fun _ => rfl) hro hil
    have hOk := hqs _ (List.getElem_mem hil)
    have hmem : ∀ q ∈ qs[i].q.b.ro, q ∈ vros qs := fun q hq => List.mem_flatMap.2 ⟨_, List.getElem_mem hil, hq⟩
    generalize qs[i] = o at hseg hOk hmem
    have hD := VDoes_spec 3 s hi (by omega) ⟨ht0, by omega⟩ b bt bp Hw Ht Hp hv o hOk
    have hinv := vDo_inv hi hOk
    have hids := vDo_ids 3 s o
    have hsm := vDo_same 3 s o
    rw [hfs, hpgs] at hsm
    generalize vDo 3 s o = s2 at *
    repeat (first | refine gx ?_ | refine gN fun _ => ?_ | refine gB fun _ => ?_ | fail)
    refine aV (OpVal.ixSl tab_ok rfl rfl rfl rfl rfl hil) ?_
    refine aV (OpVal.loadN ty_65.1 ty_65.2 rfl (show At _ _ bx (.cells lx.toArray ex frx) from .inr (by simp)) hseg) ?_
    refine aC (o := hD) (h := ?_) (hro := RoIn.all (fun q hq => by simp [hmem q hq]))
    rintro _ _ ⟨Hw2, Ht2, Hp2, rfl, rfl, hv2⟩
    refine aG ?_
    repeat (first | refine gx ?_ | refine gN fun _ => ?_ | refine gB fun _ => ?_ | fail)
    refine aR (o := ⟨16 - (i + 1), by omega, i + 1, s2, Hw2, Ht2, Hp2, by omega, hinv, by omega, by omega, by omega, hsm.1, hsm.2, hv2, rfl, rfl, rfl⟩)
  obtain ⟨t, tick⟩ := s
  simp only at *
  obtain ⟨l, D, rfl, hdoc, ht, hp⟩ := hv
  have hCr := TCrash_spec 3 t hi bt bp Ht ht Hp hp
  have hRC := RCrash_spec 3 t hi.mi.inv.ok.2.2 l D hdoc
  obtain ⟨a1, c1, r, at_, ct, rt, ag, cg, rg, aj, cj, rj, jl, ao, co, ro1, rfl, -⟩ := hdoc
  have hci := crash_inv hi
  rcases (show ¬ ((i : Int) < (qs.length : Int)) ∨ (((i : Int) < (qs.length : Int)) ∧ ¬ (i : Int) < 16) by omega) with hx | ⟨hx1, hx2⟩
  all_goals
    repeat (first | refine gx ?_ | refine gN fun _ => ?_ | refine gB fun _ => ?_ | fail)
    refine spl2 rfl ?_
    refine aG ?_
    repeat (first | refine gx ?_ | refine gN fun _ => ?_ | refine gB fun _ => ?_ | fail)
    refine aC (o := hRC) (h := ?_) (hro := RoIn.own 1 rfl)
    rintro _ _ ⟨H2, l2, rfl, rfl, hd2⟩
    refine aG ?_
    have hd3 := hd2
    obtain ⟨a2, c2, r2, at2, ct2, rt2, ag2, cg2, rg2, aj2, cj2, rj2, jl2, ao2, co2, ro2, rfl, -⟩ := hd2
    repeat (first | refine gx ?_ | refine gN fun _ => ?_ | refine gB fun _ => ?_ | fail)
    refine aC (o := hCr) (h := ?_)
    rintro _ _ ⟨Ht2, Hp2, rfl, ht2, hp2⟩
    refine aG ?_
    repeat (first | refine gx ?_ | refine gN fun _ => ?_ | refine gB fun _ => ?_ | fail)
    obtain ⟨bm, rest, Hm, hin, hm, hsubm⟩ := ht2.mach
    have hU := Busy_spec _ bm bp Hm hm
    have hW := Waits_spec 3 t.crash bt bp Ht2 ht2
    have hE := PEmpty_spec t.crash.p hci.mi.inv.ok bp Hp2 hp2
    rw [show t.crash.p.empty = true from new_empty _] at hE
    have hC := Count_spec 3 t.crash bt bp Ht2 ht2
    rw [show t.crash.m.todo.length = 0 from rfl] at hU
    rw [show t.crash.js.length = 0 from rfl] at hW
    rw [show t.crash.c = ⟨0, 0, 0, 0, 0, 0⟩ from rfl] at hC
    have hv2 : ∀ G, G = [(b, Obj.cells (List.toArray (.pointer (some ⟨bt, 0, none⟩) :: .pointer (some ⟨bp, 0, none⟩) :: (_ ++ [.int .i64 tick]))) 45 (0, 0))] ++ (H2 ++ D) → VAt 3 t.crash tick b bt bp G Ht2 Hp2 := fun G h => ⟨_, _, h, hd3, ht2, hp2⟩
    refine aV (OpVal.load tab_ok rfl (at_in 0 rfl hin) rfl) ?_
    refine aC (o := hU) (h := ?_) (hro := (fun q hq => RoIn.own 0 rfl q (hsubm q hq)))
    rintro _ _ ⟨rfl, rfl⟩
    refine aG ?_
    repeat (first | refine gx ?_ | refine gN fun _ => ?_ | refine gB fun _ => ?_ | fail)
    refine aC (o := hW) (h := ?_) (hro := RoIn.own 0 rfl)
    rintro _ _ ⟨rfl, rfl⟩
    refine aG ?_
    repeat (first | refine gx ?_ | refine gN fun _ => ?_ | refine gB fun _ => ?_ | fail)
    refine aC (o := hE) (h := ?_) (hro := RoIn.own 1 rfl)
    rintro _ _ ⟨rfl, rfl⟩
    refine aG ?_
    repeat (first | refine gx ?_ | refine gN fun _ => ?_ | refine gB fun _ => ?_ | fail)
    refine aC (o := hC) (h := ?_) (hro := RoIn.own 0 rfl)
    rintro _ _ ⟨rfl, rfl⟩
    refine aG ?_
    repeat (first | refine gx ?_ | refine gN fun _ => ?_ | refine gB fun _ => ?_ | fail)
    refine aBu (ps := []) ?_
    repeat (first | refine gx ?_ | refine gN fun _ => ?_ | refine gB fun _ => ?_ | fail)
    refine aV (neC ⟨0, 0, 0, 0, 0, 0⟩ rfl rfl) ?_
    repeat (first | refine gx ?_ | refine gN fun _ => ?_ | refine gB fun _ => ?_ | fail)
    refine W.groupV [3, 2, 2] rfl ?_
    refine aC (o := VOut_spec 3 t.crash (by have := hci.ids; have := hi.ids; show t.out.length ≤ 1000000; omega) tick b bt bp _ Ht2 Hp2 (hv2 _ rfl)) (h := ?_)
    rintro _ _ ⟨Hw3, Ht3, Hp3, rfl, rfl, hv3⟩
    refine aG ?_
    have hti := taken_inv hci
    have hpq := pq_check p4 ⟨rp.1, rp.2⟩
    have hcb := crash_busy hfs hpgs 3 (by decide) p4 ⟨rp.1, rp.2⟩ tick
    have hS := VSubmit_spec 3 t.crash.taken hti (by show t.ids < 1000000; omega) tick b bt bp Hw3 Ht3 Hp3 hv3 (pq p4) nou8 (Nat.zero_le 1000000) z64 o64 none 0 [] nilro
    have hti2 := submit_inv hti (q := pq p4) (fun h => check_ok h nou8) tick
    have hid2 := submit_ids' 3 t.crash.taken (pq p4) tick
    have hid3 : t.crash.taken.ids = t.ids := rfl
    generalize (t.crash.taken.submit 3 (pq p4) tick).1 = t4 at *
    repeat (first | refine gx ?_ | refine gN fun _ => ?_ | refine gB fun _ => ?_ | fail)
    refine aC (o := hA) (h := ?_)
    rintro _ _ ⟨rfl, rfl⟩
    refine aG ?_
    refine aBu (ps := [_, _]) ?_
    repeat (first | refine gx ?_ | refine gN fun _ => ?_ | refine gB fun _ => ?_ | fail)
    refine W.nilChunk ?_
    refine aC (o := hS) (h := ?_)
    rintro _ _ ⟨Hw4, Ht4, Hp4, rfl, rfl, hv4⟩
    refine aG ?_
    repeat (first | refine gx ?_ | refine gN fun _ => ?_ | refine gB fun _ => ?_ | fail)
    obtain ⟨l4, D4, hw4, hdoc4, ht4, hp4⟩ := id hv4
    have hin4 : (b, Obj.cells (List.toArray (.pointer (some ⟨bt, 0, none⟩) :: .pointer (some ⟨bp, 0, none⟩) :: (l4 ++ [.int .i64 tick]))) 45 (0, 0)) ∈ Hw4 := by rw [hw4]; simp
    obtain ⟨bm4, rest4, Hm4, him4, hm4, hsubm4⟩ := ht4.mach
    have hU4 := Busy_spec _ bm4 bp Hm4 hm4
    have hz4 : 0 < ((t4.m.todo.length : Nat) : Int) := by have := List.length_pos_iff.2 hcb; omega
    refine aV (OpVal.load tab_ok rfl (at_in 0 rfl hin4) rfl) ?_
    repeat (first | refine gx ?_ | refine gN fun _ => ?_ | refine gB fun _ => ?_ | fail)
    refine aV (OpVal.load tab_ok rfl (at_in 1 rfl him4) rfl) ?_
    repeat (first | refine gx ?_ | refine gN fun _ => ?_ | refine gB fun _ => ?_ | fail)
    refine aC (o := hU4) (h := ?_) (hro := (fun q hq => RoIn.own 1 rfl q (hsubm4 q hq)))
    rintro _ _ ⟨rfl, rfl⟩
    refine aG ?_
    repeat (first | refine gh hz4 ?_ | refine gN fun _ => ?_ | refine gB fun _ => ?_ | fail)
    have hO1 := VOver_spec 3 t4 hti2 (by omega) tick ⟨ht0, by omega⟩ b bt bp Hw4 Ht4 Hp4 hv4 false [] nou8 none 0 [] nilro
    have hi5 := vOver_inv hti2 false (bs := []) nou8 (tick + 1)
    have hid5 : (vOver t4 false [] (tick + 1)).ids = t4.ids := by unfold vOver; split; rfl; exact over_ids' _ _ _ _
    generalize vOver t4 false [] (tick + 1) = t5 at *
    refine aC (o := hO1) (h := ?_)
    rintro _ _ ⟨Hw5, Ht5, Hp5, rfl, rfl, hv5⟩
    refine aG ?_
    repeat (first | refine gx ?_ | refine gN fun _ => ?_ | refine gB fun _ => ?_ | fail)
    have hO2 := VOver_spec 3 t5 hi5 (by omega) (tick + 1) ⟨by omega, by omega⟩ b bt bp Hw5 Ht5 Hp5 hv5 false [] nou8 none 0 [] nilro
    have hi6 := vOver_inv hi5 false (bs := []) nou8 (tick + 1 + 1)
    have hid6 : (vOver t5 false [] (tick + 1 + 1)).ids = t5.ids := by unfold vOver; split; rfl; exact over_ids' _ _ _ _
    generalize vOver t5 false [] (tick + 1 + 1) = t6 at *
    refine aC (o := hO2) (h := ?_)
    rintro _ _ ⟨Hw6, Ht6, Hp6, rfl, rfl, hv6⟩
    refine aG ?_
    repeat (first | refine gx ?_ | refine gN fun _ => ?_ | refine gB fun _ => ?_ | fail)
    have hK := VLike_spec 3 t6 hi6 (tick + 1 + 1) b bt bp Hw6 Ht6 Hp6 hv6
    refine aC (o := hK) (h := ?_) (hro := RoIn.append (RoIn.own 0 rfl) (RoIn.append (RoIn.own 1 rfl) (RoIn.own 2 rfl)))
    rintro _ _ ⟨rfl, rfl⟩
    refine aG ?_
    repeat (first | refine gx ?_ | refine gN fun _ => ?_ | refine gB fun _ => ?_ | fail)
    refine aC (o := VOut_spec 3 t6 (by have := hi6.ids; omega) (tick + 1 + 1) b bt bp _ Ht6 Hp6 hv6) (h := ?_)
    rintro _ _ ⟨Hw7, Ht7, Hp7, rfl, rfl, hv7⟩
    refine aG ?_
    repeat (first | refine gx ?_ | refine gN fun _ => ?_ | refine gB fun _ => ?_ | fail)
    refine aC (o := hL) (h := ?_) (hro := RoIn.nil)
    rintro _ _ ⟨rfl, rfl⟩
    refine aG ?_
    repeat (first | refine gx ?_ | refine gN fun _ => ?_ | refine gB fun _ => ?_ | fail)
    refine W.ret (fin _ _ (FinOk.first 0 (.tmp rfl .nil) rfl ?_))
    exact ⟨rfl, rfl⟩
end Go.Proofs.YtfajcpnbhnddbaaGreat
namespace Go.Proofs.YtfajcpnbhnddbaaGreat
open Go Go.Sl Go.IntWalk
set_option maxHeartbeats 8000000
set_option maxRecDepth 20000
set_option linter.unusedVariables false
structure RowP (t : Tn) (tick : Int) (N : Nat) : Prop where
  ids : t.ids = (N : Int)
  row : t.out.map Rs.id ++ t.js.map Prod.fst = (List.range N).map (fun i : Nat => (i : Int) + 1)
  pw : (t.out.map Rs.tick).Pairwise (· ≤ ·)
  le : ∀ x ∈ t.out, 0 ≤ x.tick ∧ x.tick ≤ tick
theorem RowP.up {t : Tn} {tick tick' : Int} {N : Nat} (h : RowP t tick N) (hk : tick ≤ tick') : RowP t tick' N := ⟨h.ids, h.row, h.pw, fun x hx => ⟨(h.le x hx).1, Int.le_trans (h.le x hx).2 hk⟩⟩
theorem tell_row {t : Tn} {tick : Int} {N : Nat} (h : RowP t tick N) (h0 : 0 ≤ tick) (m : Mc) (p : Pt) (x : Re) (hj : x.done = true → t.js ≠ []) : RowP (({ t with m := m, p := p } : Tn).tell x tick) tick N := by
  unfold Tn.tell
  split
  · rename_i hd
    cases hjs : t.js with
    | nil => exact absurd hjs (hj hd)
    | cons j js =>
      have hr := h.row
      rw [hjs] at hr
      refine ⟨h.ids, ?_, ?_, ?_⟩
      · simp only [List.headD_cons, List.tail_cons, List.map_append, List.map_cons, List.map_nil, List.append_assoc, List.singleton_append] at hr ⊢
        exact hr
      · simp only [List.map_append, List.map_cons, List.map_nil]
        refine List.pairwise_append.2 ⟨h.pw, List.pairwise_singleton _ _, fun a ha b hb => ?_⟩
        rw [List.mem_singleton.1 hb]
        obtain ⟨z, hz, rfl⟩ := List.mem_map.1 ha
        exact (h.le z hz).2
      · intro z hz
        rcases List.mem_append.1 hz with hz | hz
        · exact h.le z hz
        · rw [List.mem_singleton.1 hz]; exact ⟨h0, Int.le_refl _⟩
  · exact ⟨h.ids, h.row, h.pw, h.le⟩
theorem run_row {tick : Int} (h0 : 0 ≤ tick) {N : Nat} : ∀ (n : Nat) {t : Tn}, RowP t tick N → RowP (t.run tick n) tick N
  | 0, t, h => h
  | n + 1, t, h => by
    unfold Tn.run
    split
    · rename_i hc
      exact run_row h0 n (tell_row h h0 _ _ _ (fun _ => hc.2))
    · exact h
theorem run_mu {tick : Int} : ∀ (n : Nat) {t : Tn}, t.m.todo = [] → t.p.fs.length = 2 → (t.run tick n).m.todo.length ≤ 5 ∧ (t.run tick n).m.todo.length + 5 * (t.run tick n).js.length ≤ 5 * t.js.length + 5
  | 0, t, h, _ => by show t.m.todo.length ≤ 5 ∧ t.m.todo.length + 5 * t.js.length ≤ 5 * t.js.length + 5; rw [h]; simp
  | n + 1, t, h, hf => by
    unfold Tn.run
    split
    · rename_i hc
      have hl := begin_todo t.p (t.js.headD noJob).2 h
      rw [hf] at hl
      have hlen : (t.begun tick).p.fs.length = 2 := by
        unfold Tn.begun Tn.tell
        split <;> (show (mBegin t.m t.p _).2.1.fs.length = 2; rw [mBegin_len, hf])
      have hm : (t.begun tick).m = (mBegin t.m t.p (t.js.headD noJob).2).1 := by unfold Tn.begun Tn.tell; split <;> rfl
      have h0 := List.length_pos_iff.2 hc.2
      rcases begun_step hc.1 hc.2 tick with ⟨h1, h2⟩ | ⟨h1, h2⟩
      · have := run_mu (tick := tick) n h1 hlen
        rw [h2, List.length_tail] at this
        omega
      · rw [run_busy _ _ h1, hm, h2]
        omega
    · show t.m.todo.length ≤ 5 ∧ t.m.todo.length + 5 * t.js.length ≤ 5 * t.js.length + 5
      rw [h]; simp
structure RowI (d : Nat) (t : Tn) (tick : Int) (N : Nat) : Prop where
  inv : TInv d t
  r : RowP t tick N
  q : t.m.todo = [] → t.js = []
  td : t.m.todo.length ≤ 5
  fs : t.p.fs.length = 2
  pg : t.pages = 4
theorem row_over {d : Nat} {t : Tn} {tick : Int} {N : Nat} (h : RowI d t tick N) (h0 : 0 ≤ tick) (hb : t.m.todo ≠ []) {bs : List Int} (hu : u8ok bs) (hl : bs.length = 16) :
    RowI d (t.over 0 bs (tick + 1)) (tick + 1) N ∧ (t.over 0 bs (tick + 1)).m.todo.length + 5 * (t.over 0 bs (tick + 1)).js.length < t.m.todo.length + 5 * t.js.length := by
  have hne := h.inv.bz hb
  have hj0 := List.length_pos_iff.2 hne
  have ht0 := List.length_pos_iff.2 hb
  have hinv := over_inv h.inv hb 0 (bs := bs) (fun _ => ⟨hu, hl⟩) (tick + 1)
  have hsm := over_same t 0 bs (tick + 1)
  have hr0 := tell_row (h.r.up (show tick ≤ tick + 1 by omega)) (by omega) (mEnd t.m t.p 0 bs).1 (mEnd t.m t.p 0 bs).2.1 (mEnd t.m t.p 0 bs).2.2 (fun _ => hne)
  have hd := end_done t.m t.p 0 bs
  have htodo := mEnd_todo t.m t.p bs
  have hlen := mEnd_len t.m t.p 0 bs
  have hgo := go_idle (t := ({ t with m := (mEnd t.m t.p 0 bs).1, p := (mEnd t.m t.p 0 bs).2.1 } : Tn).tell (mEnd t.m t.p 0 bs).2.2 (tick + 1)) (tick + 1)
  have hum : (({ t with m := (mEnd t.m t.p 0 bs).1, p := (mEnd t.m t.p 0 bs).2.1 } : Tn).tell (mEnd t.m t.p 0 bs).2.2 (tick + 1)).m = (mEnd t.m t.p 0 bs).1 ∧ (({ t with m := (mEnd t.m t.p 0 bs).1, p := (mEnd t.m t.p 0 bs).2.1 } : Tn).tell (mEnd t.m t.p 0 bs).2.2 (tick + 1)).p = (mEnd t.m t.p 0 bs).2.1 ∧
      ((mEnd t.m t.p 0 bs).2.2.done = true → (({ t with m := (mEnd t.m t.p 0 bs).1, p := (mEnd t.m t.p 0 bs).2.1 } : Tn).tell (mEnd t.m t.p 0 bs).2.2 (tick + 1)).js = t.js.tail) ∧ ((mEnd t.m t.p 0 bs).2.2.done = false → (({ t with m := (mEnd t.m t.p 0 bs).1, p := (mEnd t.m t.p 0 bs).2.1 } : Tn).tell (mEnd t.m t.p 0 bs).2.2 (tick + 1)).js = t.js) := by
    unfold Tn.tell
    split
    · rename_i hx; exact ⟨rfl, rfl, fun _ => rfl, fun hf => by rw [hf] at hx; cases hx⟩
    · rename_i hx; exact ⟨rfl, rfl, fun ht => absurd ht hx, fun _ => rfl⟩
  unfold Tn.over at hinv hsm ⊢
  generalize ({ t with m := (mEnd t.m t.p 0 bs).1, p := (mEnd t.m t.p 0 bs).2.1 } : Tn).tell (mEnd t.m t.p 0 bs).2.2 (tick + 1) = u at *
  obtain ⟨hm, hp, hj1, hj2⟩ := hum
  have hrow : RowP (u.go (tick + 1)) (tick + 1) N := run_row (by omega) _ hr0
  rw [h.fs] at hsm hlen
  rw [h.pg] at hsm
  have htd := h.td
  have htl : (mEnd t.m t.p 0 bs).1.todo.length = t.m.todo.length - 1 := by rw [htodo, List.length_tail]
  cases hx : (mEnd t.m t.p 0 bs).2.2.done with
  | true =>
    have hu0 : u.m.todo = [] := by rw [hm]; exact hd.2.1 hx
    have hmu := run_mu (tick := tick + 1) u.js.length (t := u) hu0 (by rw [hp]; exact hlen)
    have hjl : u.js.length = t.js.length - 1 := by rw [hj1 hx, List.length_tail]
    have e : u.run (tick + 1) u.js.length = u.go (tick + 1) := rfl
    rw [e, hjl] at hmu
    exact ⟨⟨hinv, hrow, hgo, hmu.1, hsm.1, hsm.2⟩, by omega⟩
  | false =>
    have hu0 : u.m.todo ≠ [] := by rw [hm]; exact hd.2.2 hx
    rw [go_quiet (.inl hu0)] at hinv hrow hgo hsm ⊢
    have hjl : u.js.length = t.js.length := by rw [hj2 hx]
    have hml : u.m.todo.length = t.m.todo.length - 1 := by rw [hm, htl]
    exact ⟨⟨hinv, hrow, hgo, by omega, hsm.1, hsm.2⟩, by omega⟩
theorem row_submit {d : Nat} {t : Tn} {tick : Int} {N : Nat} (h : RowI d t tick N) (h0 : 0 ≤ tick) {q : Rq} (hq : rcheck q 4 = 0) (hu : u8ok q.data) :
    ((t.submit d q tick).2 = ((N : Int) + 1, 0) ∧ RowI d (t.submit d q tick).1 tick (N + 1)) ∨ ((t.submit d q tick).2 = (0, 8) ∧ (t.submit d q tick).1 = t) := by
  have hinv := submit_inv h.inv (q := q) (fun hc => check_ok hc hu) tick
  have hsm := submit_same d t q tick
  rw [h.fs, h.pg] at hsm
  unfold Tn.submit at hinv hsm ⊢
  rw [if_neg (show ¬ rcheck q t.pages ≠ 0 by rw [h.pg, hq]; simp)] at hinv hsm ⊢
  by_cases hd : d ≤ t.js.length
  · rw [if_pos hd]
    exact .inr ⟨rfl, rfl⟩
  · rw [if_neg hd] at hinv hsm ⊢
    refine .inl ⟨by rw [h.r.ids], ⟨hinv, ?_, go_idle tick, ?_, hsm.1, hsm.2⟩⟩
    · refine run_row h0 _ ⟨by show t.ids + 1 = _; rw [h.r.ids]; rfl, ?_, h.r.pw, h.r.le⟩
      simp only [List.map_append, List.map_cons, List.map_nil]
      rw [← List.append_assoc, h.r.row, List.range_succ, List.map_append, h.r.ids]
      rfl
    · by_cases hb : t.m.todo = []
      · exact (run_mu (tick := tick) _ (t := { t with js := t.js ++ [(t.ids + 1, q)], ids := t.ids + 1 }) hb h.fs).1
      · rw [go_quiet (t := { t with js := t.js ++ [(t.ids + 1, q)], ids := t.ids + 1 }) (.inl hb)]
        exact h.td
end Go.Proofs.YtfajcpnbhnddbaaGreat
namespace Go.Proofs.YtfajcpnbhnddbaaGreat
open Go Go.Sl Go.IntWalk
set_option maxHeartbeats 16000000
set_option maxRecDepth 20000
set_option linter.unusedVariables false
theorem doc18 {d : Nat} {t : Tn} {l : List Value} {D : HL} (h : DocT d t l D) : ∃ x0 x1 x2 x3 x4 x5 x6 x7 x8 x9 y0 y1 y2 y3 y4 y5 y6 y7, l = [x0, x1, x2, x3, x4, x5, x6, x7, x8, x9, y0, y1, y2, y3, y4, y5, y6, y7] := by
  obtain ⟨a1, c1, r, at_, ct, rt, ag, cg, rg, aj, cj, rj, jl, ao, co, ro1, rfl, -⟩ := h
  exact ⟨_, _, _, _, _, _, _, _, _, _, _, _, _, _, _, _, _, _, rfl⟩
theorem row_tick {t : Tn} {tick : Int} {N : Nat} (h : RowP t tick N) (hj : t.js = []) {los : List Ro} (hlo : los.map Ro.r = t.out) : los.length = N ∧ (∀ m (hm : m < los.length), los[m].r.id = (m : Int) + 1) ∧ (∀ m k (hk : k < los.length) (hmk : m < k), (los[m]'(Nat.lt_trans hmk hk)).r.tick ≤ los[k].r.tick) ∧ (∀ m (hm : m < los.length), 0 ≤ los[m].r.tick) := by
  have hr := h.row
  have hp := h.pw
  have hl := h.le
  rw [hj] at hr
  rw [← hlo] at hr hp hl
  simp only [List.map_nil, List.append_nil, List.map_map] at hr hp
  have hn : los.length = N := by have := congrArg List.length hr; simpa using this
  refine ⟨hn, fun m hm => ?_, fun m k hk hmk => ?_, fun m hm => ?_⟩
  · have e := congrArg (fun z : List Int => z[m]?) hr
    simp only [List.getElem?_map, List.getElem?_eq_getElem hm, List.getElem?_range (show m < N from hn ▸ hm), Option.map_some, Function.comp] at e
    exact Option.some.inj e
  · have := List.pairwise_iff_getElem.1 hp m k (by simpa using Nat.lt_trans hmk hk) (by simpa using hk) hmk
    simpa using this
  · exact (hl _ (List.mem_map.2 ⟨_, List.getElem_mem hm, rfl⟩)).1
theorem TenantRow_spec (dp : Int) (hdp : i64s dp) (qs : List QD) (hqs : ∀ o ∈ qs, QD.Ok o) (a : Option Addr) (c : Nat) (ro : HL) (hro : RoSl 5 (qs.flatMap QD.l) a qs.length ro) :
    Ctr Tryz.prog 3 [.int .i64 dp, .slice a qs.length c] [] (ro ++ qros qs) (fun v L' => v = .bool true ∧ L' = []) := by
  have rd := around_range dp 4 (by decide)
  have hA := Around_spec dp 4 hdp (by decide)
  obtain ⟨d, hd⟩ : ∃ d : Nat, 1 + around dp 4 = (d : Int) := ⟨(1 + around dp 4).toNat, by omega⟩
  have hd1 : 1 ≤ d := by omega
  have hd4 : d ≤ 4 := by omega
  have hB := VBegin_spec 2 d (by decide) (by decide) hd1 (by omega) 4 (by decide) (by decide)
  have hL := VLives_spec
  obtain ⟨zs, hz1, hz2, hz3⟩ : ∃ zs, repL 16 [Value.int .u8 0] = u8s zs ∧ u8ok zs ∧ zs.length = 16 := ⟨z16', rep16', zu8, rfl⟩
  generalize around dp 4 = ad at *
  refine Ctr.enter (n := 171) [.tmp 4] [(0, _), (1, _)] Tryz.func3 rfl rfl rfl (lb rfl) Tryz.call3 ⟨rfl, rfl, trivial⟩ ?_
  intro cx fin fin0
  refine aG ?_
  repeat (first | refine gx ?_ | refine gN fun _ => ?_ | refine gB fun _ => ?_ | fail)
  refine aC (o := hA) (h := ?_)
  rintro _ _ ⟨rfl, rfl⟩
  refine aG ?_
  repeat (first | refine gx ?_ | refine gN fun _ => ?_ | refine gB fun _ => ?_ | fail)
  rw [hd]
  refine aC (o := hB) (h := ?_)
  rintro _ _ ⟨b, bt, bp, Hw, Ht, Hp, rfl, rfl, l, D, rfl, hdoc, ht, hp⟩
  refine aG ?_
  obtain ⟨x0, x1, x2, x3, x4, x5, x6, x7, x8, x9, y0, y1, y2, y3, y4, y5, y6, y7, rfl⟩ := doc18 hdoc
  repeat (first | refine gx ?_ | refine gN fun _ => ?_ | refine gB fun _ => ?_ | fail)
  refine spl2 rfl ?_
  refine aG ?_
  refine aLp (fun k ρ1 L1 => ∃ (i N : Nat) (t : Tn) (Ht Hp : HL), i ≤ 10 ∧ N ≤ i ∧ RowI d t (i : Int) N ∧ TAt d t bt bp Ht ∧ PtAt t.p bp Hp ∧ k = 10 - i ∧ ρ1 = [(7, .int .i64 (i : Int)), (6, .int .i64 (N : Int)), (5, .pointer (some ⟨b, 0, none⟩)), (1, .slice a qs.length c)] ∧ L1 = [[(b, Obj.cells (List.toArray [.pointer (some ⟨bt, 0, none⟩), .pointer (some ⟨bp, 0, none⟩), x0, x1, x2, x3, x4, x5, x6, x7, x8, x9, y0, y1, y2, y3, y4, y5, y6, y7, .int .i64 (i : Int)]) 45 (0, 0))], Ht, Hp]) (o := ⟨0, 0, Tn.new 2 4, Ht, Hp, by decide, by decide, ⟨new_inv d 2 (by decide) (by decide) 4, ⟨rfl, rfl, List.Pairwise.nil, fun _ h => (by cases h)⟩, fun _ => rfl, Nat.zero_le _, rfl, rfl⟩, ht, hp, rfl, rfl, rfl⟩) (h := ?_)
  clear ht hp hdoc
  rintro k ρ1 L1 ⟨i, N, t, Ht, Hp, hi10, hNi, hr, ht, hp, rfl, rfl, rfl⟩
  refine aG ?_
  by_cases hc : ((i : Int) < (qs.length : Int)) ∧ (i : Int) < 10
  case' pos =>
    obtain ⟨hc1, hc2⟩ := hc
    have hil : i < qs.length := by omega
    obtain ⟨bx, ox, lx, ex, frx, rfl, rfl, hseg, -⟩ := RoSl.at (f := QD.l) (fun _ => rfl) hro hil
    have hO := hqs _ (List.getElem_mem hil)
    have hmem : ∀ q ∈ qs[i].b.ro, q ∈ qros qs := fun q hq => List.mem_flatMap.2 ⟨_, List.getElem_mem hil, hq⟩
    generalize qs[i] = o at hseg hO hmem
    have hG := Good_spec o.q hO.inn 4 (by decide) o.b.a o.b.cap o.b.ro hO.ro
    have hgc := gq_check o.q 4 (by decide)
    have hgo := gq_ok o.q 4 (by decide) hO.u8
    generalize gq o.q 4 = q at *
    have hS := fun a' c' H' hr' => Submit_spec d t hr.inv (by rw [hr.r.ids]; omega) bt bp Ht ht Hp hp q hgo.u8 hgo.dl hgo.off ⟨by have := hgo.op; omega, by have := hgo.op; omega⟩ (fun h => check_ok h hgo.u8) a' c' H' hr' (i : Int)
    have hrs := row_submit hr (Int.natCast_nonneg i) hgc hgo.u8
    generalize t.submit d q (i : Int) = s1 at *
    obtain ⟨t1, id1, e1⟩ := s1
    simp only [Prod.mk.injEq] at hrs hS
    obtain ⟨qo, qp, qf, ql, qd⟩ := q
    simp only [Rq.v] at hS hG
    repeat (first | refine gx ?_ | refine gN fun _ => ?_ | refine gB fun _ => ?_ | fail)
    refine W.drawH tab_ok 19 [.b false, .b false, .b false, .b false, .b false, .b false, .b false, .b false, .b true, .b false, .b false, .b false, .b false, .b true, .b false, .b false, .b false, .b false, .b false] [1,2] follows (by decide +kernel) (by decide +kernel) rfl (by decide) rfl ?_
    intro _
    refine dG ?_
    repeat (first | refine dL ?_ | refine dS ?_ | (first | refine dGo ?_ | refine dSk ?_ | refine dUn ?_ | fail) | (first | refine dPT ?_ | refine dPF ?_ | fail) | refine dV (OpVal.add rfl rfl (i64_in _ (by omega))) ?_ | refine dV (OpVal.sub rfl rfl (i64_in _ (by omega))) ?_ | refine dV (OpVal.neBool tab_ok rfl rfl rfl) ?_ | refine dV (OpVal.eqBool tab_ok rfl rfl rfl) ?_ | refine dV (OpVal.eqNil tab_ok rfl rfl rfl) ?_ | refine dV (OpVal.neNil tab_ok rfl rfl rfl) ?_ | fail)
    refine dV (OpVal.ixSl tab_ok rfl rfl rfl rfl rfl hil) ?_
    refine dV (OpVal.loadN ty_48.1 ty_48.2 rfl (show At _ _ bx (.cells lx.toArray ex frx) from .inr (by simp)) hseg) ?_
    refine dC (o := hG) (h := ?_) (hro := RoIn.all (fun q hq => by simp [hmem q hq]))
    rintro _ _ ⟨a5, c5, H5, rfl, rfl, h5⟩
    refine dG ?_
    repeat (first | refine dL ?_ | refine dS ?_ | (first | refine dGo ?_ | refine dSk ?_ | refine dUn ?_ | fail) | (first | refine dPT ?_ | refine dPF ?_ | fail) | refine dV (OpVal.add rfl rfl (i64_in _ (by omega))) ?_ | refine dV (OpVal.sub rfl rfl (i64_in _ (by omega))) ?_ | refine dV (OpVal.neBool tab_ok rfl rfl rfl) ?_ | refine dV (OpVal.eqBool tab_ok rfl rfl rfl) ?_ | refine dV (OpVal.eqNil tab_ok rfl rfl rfl) ?_ | refine dV (OpVal.neNil tab_ok rfl rfl rfl) ?_ | fail)
    refine dC (o := hS a5 c5 H5 h5) (h := ?_) (hro := RoIn.own 0 rfl)
    rintro _ _ ⟨Ht1, Hp1, rfl, rfl, ht1, hp1⟩
    refine dG ?_
    repeat (first | refine dL ?_ | refine dS ?_ | (first | refine dGo ?_ | refine dSk ?_ | refine dUn ?_ | fail) | (first | refine dPT ?_ | refine dPF ?_ | fail) | refine dV (OpVal.add rfl rfl (i64_in _ (by omega))) ?_ | refine dV (OpVal.sub rfl rfl (i64_in _ (by omega))) ?_ | refine dV (OpVal.neBool tab_ok rfl rfl rfl) ?_ | refine dV (OpVal.eqBool tab_ok rfl rfl rfl) ?_ | refine dV (OpVal.eqNil tab_ok rfl rfl rfl) ?_ | refine dV (OpVal.neNil tab_ok rfl rfl rfl) ?_ | fail)
    refine WD.nil (W.dropNil (aG ?_))
    rcases hrs with ⟨⟨rfl, rfl⟩, hr1⟩ | ⟨⟨rfl, rfl⟩, h8⟩
    case' inr =>
      have hr1 := hr
      rw [← h8] at hr1
      clear h8
    all_goals
      clear hr ht hp hS hG hgc hgo
      obtain ⟨bm, rest, Hm, hin, hm, hsubm⟩ := ht1.mach
      have hU := Busy_spec _ bm bp Hm hm
      repeat (first | refine gx ?_ | refine gN fun _ => ?_ | refine gB fun _ => ?_ | fail)
      refine aV (OpVal.load tab_ok rfl (at_in 0 rfl hin) rfl) ?_
      repeat (first | refine gx ?_ | refine gN fun _ => ?_ | refine gB fun _ => ?_ | fail)
      refine aC (o := hU) (h := ?_) (hro := (fun q hq => RoIn.own 0 rfl q (hsubm q hq)))
      rintro _ _ ⟨rfl, rfl⟩
      refine aG ?_
      rcases Classical.em (t1.m.todo = []) with h0 | h0
      case' inl =>
        have hz : ¬ 0 < ((t1.m.todo.length : Nat) : Int) := by rw [h0]; decide
        repeat (first | refine gh hz ?_ | refine gN fun _ => ?_ | refine gB fun _ => ?_ | fail)
        refine aR (o := ⟨10 - (i + 1), by omega, i + 1, _, t1, Ht1, Hp1, by omega, ?_, ⟨hr1.inv, hr1.r.up (by omega), hr1.q, hr1.td, hr1.fs, hr1.pg⟩, ht1, hp1, rfl, rfl, rfl⟩)
        omega
      have hz : 0 < ((t1.m.todo.length : Nat) : Int) := by have := List.length_pos_iff.2 h0; omega
      have hrv := row_over hr1 (Int.natCast_nonneg i) h0 hz2 hz3
      have hE := fun (bz : Nat) (cb : Nat) => Over_spec d t1 hr1.inv (by rw [hr1.r.ids]; omega) h0 bt bp Ht1 ht1 Hp1 hp1 0 zs (fun _ => ⟨hz2, hz3⟩) (some ⟨bz, 0, none⟩) cb _ (own_roT bz zs 5) ((i : Int) + 1)
      rw [hz3] at hE
      generalize t1.over 0 zs ((i : Int) + 1) = t2 at *
      repeat (first | refine gh hz ?_ | refine gN fun _ => ?_ | refine gB fun _ => ?_ | fail)
      refine W.drawH tab_ok 10 [.b false, .b false, .b false, .b false, .b true, .b false, .b false, .b false, .b false, .b true] [0,1] follows (by decide +kernel) (by decide +kernel) rfl (by decide) rfl ?_
      intro _
      refine dG ?_
      repeat (first | refine dL ?_ | refine dS ?_ | (first | refine dGo ?_ | refine dSk ?_ | refine dUn ?_ | fail) | (first | refine dPT ?_ | refine dPF ?_ | fail) | refine dV (OpVal.add rfl rfl (i64_in _ (by omega))) ?_ | refine dV (OpVal.sub rfl rfl (i64_in _ (by omega))) ?_ | refine dV (OpVal.neBool tab_ok rfl rfl rfl) ?_ | refine dV (OpVal.eqBool tab_ok rfl rfl rfl) ?_ | refine dV (OpVal.eqNil tab_ok rfl rfl rfl) ?_ | refine dV (OpVal.neNil tab_ok rfl rfl rfl) ?_ | fail)
      refine dW (NewOf.mks (bytes := 1) (len := 16) (cap := 16) tab_ok rfl rfl rfl rfl rfl rfl rfl rfl rfl (Nat.le_refl _) (by decide) (by decide)) ?_
      intro bz
      refine dG ?_
      rw [hz1]
      repeat (first | refine dL ?_ | refine dS ?_ | (first | refine dGo ?_ | refine dSk ?_ | refine dUn ?_ | fail) | (first | refine dPT ?_ | refine dPF ?_ | fail) | refine dV (OpVal.add rfl rfl (i64_in _ (by omega))) ?_ | refine dV (OpVal.sub rfl rfl (i64_in _ (by omega))) ?_ | refine dV (OpVal.neBool tab_ok rfl rfl rfl) ?_ | refine dV (OpVal.eqBool tab_ok rfl rfl rfl) ?_ | refine dV (OpVal.eqNil tab_ok rfl rfl rfl) ?_ | refine dV (OpVal.neNil tab_ok rfl rfl rfl) ?_ | fail)
      refine dC (o := hE bz 16) (h := ?_) (hro := RoIn.own 0 rfl)
      rintro _ _ ⟨Ht2, Hp2, rfl, ht2, hp2⟩
      refine dG ?_
      refine WD.nil (W.dropNil (aG ?_))
      repeat (first | refine gx ?_ | refine gN fun _ => ?_ | refine gB fun _ => ?_ | fail)
      refine aR (o := ⟨10 - (i + 1), by omega, i + 1, _, t2, Ht2, Hp2, by omega, ?_, hrv.1, ht2, hp2, rfl, rfl, rfl⟩)
      omega
  have hm25 : t.m.todo.length + 5 * t.js.length ≤ 25 := by have := hr.td; have := hr.inv.len; omega
  rcases (show ¬ ((i : Int) < (qs.length : Int)) ∨ (((i : Int) < (qs.length : Int)) ∧ ¬ (i : Int) < 10) by omega) with hx | ⟨hx1, hx2⟩
  all_goals
    repeat (first | refine gx ?_ | refine gN fun _ => ?_ | refine gB fun _ => ?_ | fail)
    refine aLp (fun k ρ2 L2 => ∃ (j : Nat) (t' : Tn) (Ht' Hp' : HL), RowI d t' ((i : Int) + (j : Int)) N ∧ j + (t'.m.todo.length + 5 * t'.js.length) ≤ 25 ∧ TAt d t' bt bp Ht' ∧ PtAt t'.p bp Hp' ∧ k = 100 - j ∧ ρ2 = [(10, .int .i64 (j : Int)), (6, .int .i64 (N : Int)), (5, .pointer (some ⟨b, 0, none⟩))] ∧ L2 = [[(b, Obj.cells (List.toArray [.pointer (some ⟨bt, 0, none⟩), .pointer (some ⟨bp, 0, none⟩), x0, x1, x2, x3, x4, x5, x6, x7, x8, x9, y0, y1, y2, y3, y4, y5, y6, y7, .int .i64 ((i : Int) + (j : Int))]) 45 (0, 0))], Ht', Hp']) (o := ⟨0, t, Ht, Hp, ⟨hr.inv, hr.r.up (by omega), hr.q, hr.td, hr.fs, hr.pg⟩, by omega, ht, hp, rfl, rfl, rfl⟩) (h := ?_)
    clear hm25 ht hp hr
    rintro k ρ2 L2 ⟨j, t', Ht', Hp', hr', hmu, ht', hp', rfl, rfl, rfl⟩
    obtain ⟨bm, rest, Hm, hin, hm, hsubm⟩ := ht'.mach
    have hU := Busy_spec _ bm bp Hm hm
    have hj100 : (j : Int) < 100 := by omega
    refine aG ?_
    repeat (first | refine gh hj100 ?_ | refine gN fun _ => ?_ | refine gB fun _ => ?_ | fail)
    refine aV (OpVal.load tab_ok rfl (at_in 1 rfl hin) rfl) ?_
    repeat (first | refine gx ?_ | refine gN fun _ => ?_ | refine gB fun _ => ?_ | fail)
    refine aC (o := hU) (h := ?_) (hro := (fun q hq => RoIn.own 1 rfl q (hsubm q hq)))
    rintro _ _ ⟨rfl, rfl⟩
    refine aG ?_
    rcases Classical.em (t'.m.todo = []) with h0 | h0
    case' inr =>
      have hz : 0 < ((t'.m.todo.length : Nat) : Int) := by have := List.length_pos_iff.2 h0; omega
      have hrv := row_over hr' (by omega) h0 hz2 hz3
      have hE := fun (bz : Nat) (cb : Nat) => Over_spec d t' hr'.inv (by rw [hr'.r.ids]; omega) h0 bt bp Ht' ht' Hp' hp' 0 zs (fun _ => ⟨hz2, hz3⟩) (some ⟨bz, 0, none⟩) cb _ (own_roT bz zs 5) ((i : Int) + (j : Int) + 1)
      rw [hz3] at hE
      generalize t'.over 0 zs ((i : Int) + (j : Int) + 1) = t2 at *
      repeat (first | refine gh hz ?_ | refine gN fun _ => ?_ | refine gB fun _ => ?_ | fail)
      refine W.drawH tab_ok 10 [.b false, .b false, .b false, .b false, .b true, .b false, .b false, .b false, .b false, .b true] [1,2] follows (by decide +kernel) (by decide +kernel) rfl (by decide) rfl ?_
      intro _
      refine dG ?_
      repeat (first | refine dL ?_ | refine dS ?_ | (first | refine dGo ?_ | refine dSk ?_ | refine dUn ?_ | fail) | (first | refine dPT ?_ | refine dPF ?_ | fail) | refine dV (OpVal.add rfl rfl (i64_in _ (by omega))) ?_ | refine dV (OpVal.sub rfl rfl (i64_in _ (by omega))) ?_ | refine dV (OpVal.neBool tab_ok rfl rfl rfl) ?_ | refine dV (OpVal.eqBool tab_ok rfl rfl rfl) ?_ | refine dV (OpVal.eqNil tab_ok rfl rfl rfl) ?_ | refine dV (OpVal.neNil tab_ok rfl rfl rfl) ?_ | fail)
      refine dW (NewOf.mks (bytes := 1) (len := 16) (cap := 16) tab_ok rfl rfl rfl rfl rfl rfl rfl rfl rfl (Nat.le_refl _) (by decide) (by decide)) ?_
      intro bz
      refine dG ?_
      rw [hz1]
      repeat (first | refine dL ?_ | refine dS ?_ | (first | refine dGo ?_ | refine dSk ?_ | refine dUn ?_ | fail) | (first | refine dPT ?_ | refine dPF ?_ | fail) | refine dV (OpVal.add rfl rfl (i64_in _ (by omega))) ?_ | refine dV (OpVal.sub rfl rfl (i64_in _ (by omega))) ?_ | refine dV (OpVal.neBool tab_ok rfl rfl rfl) ?_ | refine dV (OpVal.eqBool tab_ok rfl rfl rfl) ?_ | refine dV (OpVal.eqNil tab_ok rfl rfl rfl) ?_ | refine dV (OpVal.neNil tab_ok rfl rfl rfl) ?_ | fail)
      refine dC (o := hE bz 16) (h := ?_) (hro := RoIn.own 0 rfl)
      rintro _ _ ⟨Ht2, Hp2, rfl, ht2, hp2⟩
      refine dG ?_
      refine WD.nil (W.dropNil (aG ?_))
      repeat (first | refine gx ?_ | refine gN fun _ => ?_ | refine gB fun _ => ?_ | fail)
      refine aR (o := ⟨100 - (j + 1), by omega, j + 1, t2, Ht2, Hp2, hrv.1, by have := hrv.2; omega, ht2, hp2, rfl, rfl, rfl⟩)
    have hz : ¬ 0 < ((t'.m.todo.length : Nat) : Int) := by rw [h0]; decide
    repeat (first | refine gh hz ?_ | refine gN fun _ => ?_ | refine gB fun _ => ?_ | fail)
    refine aC (o := Out_spec d t' bt bp Ht' ht') (h := ?_)
    rintro _ _ ⟨los, ao, co, Ht3, Ho, Do, rfl, rfl, ht3, hlo, hro3, hsub3, hll⟩
    refine aG ?_
    have hjs := hr'.q h0
    obtain ⟨hN, hid, htk, ht0⟩ := row_tick hr'.r hjs hlo
    subst hN
    have hW := Waits_spec d t'.taken bt bp Ht3 ht3
    rw [show t'.taken.js = [] from hjs] at hW
    repeat (first | refine gx ?_ | refine gN fun _ => ?_ | refine gB fun _ => ?_ | fail)
    refine aC (o := hW) (h := ?_) (hro := RoIn.own 0 rfl)
    rintro _ _ ⟨rfl, rfl⟩
    refine aG ?_
    repeat (first | refine gx ?_ | refine gN fun _ => ?_ | refine gB fun _ => ?_ | fail)
    refine aLp (fun k ρ3 L3 => ∃ (m : Nat) (la : Int), m ≤ los.length ∧ (∀ x (hx : x < los.length), m ≤ x → la ≤ los[x].r.tick) ∧ k = los.length - m ∧ ρ3 = [(13, .int .i64 (m : Int)), (12, .int .i64 la), (11, .slice ao los.length co), (5, .pointer (some ⟨b, 0, none⟩))] ∧ L3 = [Ht3, Ho, [(b, Obj.cells (List.toArray [.pointer (some ⟨bt, 0, none⟩), .pointer (some ⟨bp, 0, none⟩), x0, x1, x2, x3, x4, x5, x6, x7, x8, x9, y0, y1, y2, y3, y4, y5, y6, y7, .int .i64 ((i : Int) + (j : Int))]) 45 (0, 0))]]) (o := ⟨0, 0, Nat.zero_le _, fun x hx _ => ht0 x hx, rfl, rfl, rfl⟩) (h := ?_)
    rintro k ρ3 L3 ⟨m, la, hml, hla, rfl, rfl, rfl⟩
    refine aG ?_
    by_cases hlt : (m : Int) < (los.length : Int)
    case' pos =>
      have hmn : m < los.length := by omega
      have hnx : ∀ x (hx : x < los.length), m + 1 ≤ x → los[m].r.tick ≤ los[x].r.tick := fun x hx hmx => htk m x hx (by omega)
      have hla' : ¬ los[m].r.tick < la := by have := hla m hmn (Nat.le_refl _); omega
      obtain ⟨bx', ox', lx', ex', frx', rfl, rfl, hsg', hld'⟩ := RoSl.at (f := Ro.l) (m := 11) (fun _ => rfl) hro3 hmn
      have g1 : lx'[ox' + m * 11 + 0]? = some (.int .i64 los[m].r.id) := hld' 0 (by decide)
      have g2 : lx'[ox' + m * 11 + 3]? = some (.int .i64 los[m].r.tick) := hld' 3 (by decide)
      rw [hid m hmn] at g1
      generalize los[m].r.tick = tk at *
      repeat (first | refine gx ?_ | refine gN fun _ => ?_ | refine gB fun _ => ?_ | fail)
      refine aV (OpVal.ixSl tab_ok rfl rfl rfl rfl rfl hmn) ?_
      repeat (first | refine gx ?_ | refine gN fun _ => ?_ | refine gB fun _ => ?_ | fail)
      refine aV (OpVal.load tab_ok rfl (at_own 1 rfl) g1) ?_
      repeat (first | refine gx ?_ | refine gN fun _ => ?_ | refine gB fun _ => ?_ | fail)
      refine aV (OpVal.ixSl tab_ok rfl rfl rfl rfl rfl hmn) ?_
      repeat (first | refine gx ?_ | refine gN fun _ => ?_ | refine gB fun _ => ?_ | fail)
      refine aV (OpVal.load tab_ok rfl (at_own 1 rfl) g2) ?_
      repeat (first | refine gh hla' ?_ | refine gN fun _ => ?_ | refine gB fun _ => ?_ | fail)
      refine aV (OpVal.ixSl tab_ok rfl rfl rfl rfl rfl hmn) ?_
      repeat (first | refine gx ?_ | refine gN fun _ => ?_ | refine gB fun _ => ?_ | fail)
      refine aV (OpVal.load tab_ok rfl (at_own 1 rfl) g2) ?_
      repeat (first | refine gx ?_ | refine gN fun _ => ?_ | refine gB fun _ => ?_ | fail)
      refine aR (o := ⟨los.length - (m + 1), by omega, m + 1, tk, by omega, hnx, rfl, rfl, rfl⟩)
    repeat (first | refine gx ?_ | refine gN fun _ => ?_ | refine gB fun _ => ?_ | fail)
    refine aC (o := Out_spec d t'.taken bt bp Ht3 ht3) (h := ?_)
    rintro _ _ ⟨lo2, ao2, co2, Ht4, Ho4, Do4, rfl, rfl, ht4, hlo4, hro4, hsub4, hll4⟩
    refine aG ?_
    have hl2 : lo2.length = 0 := by have := congrArg List.length hlo4; rwa [List.length_map] at this
    rw [hl2]
    repeat (first | refine gx ?_ | refine gN fun _ => ?_ | refine gB fun _ => ?_ | fail)
    refine aC (o := hL) (h := ?_) (hro := RoIn.nil)
    rintro _ _ ⟨rfl, rfl⟩
    refine aG ?_
    repeat (first | refine gx ?_ | refine gN fun _ => ?_ | refine gB fun _ => ?_ | fail)
    refine W.ret (fin _ _ (FinOk.first 0 (.tmp rfl .nil) rfl ?_))
    exact ⟨rfl, rfl⟩
end Go.Proofs.YtfajcpnbhnddbaaGreat
