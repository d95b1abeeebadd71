/-
  The document's machine: Begin.
-/
import Derived.Test.YtgipjpiiomgjjaaMe
namespace Go.Proofs.Ytgipjpiiomgjjaa
open Go Go.Sl Go.IntWalk
set_option maxHeartbeats 8000000
set_option maxRecDepth 20000
theorem doPageHand (p : Pt) (page : Int) (g : Fr → Fr × Int) : (p.doPage page g).1.hand = p.hand := by unfold Pt.doPage; split <;> rfl
theorem getHand (p : Pt) (page off n : Int) : (p.get page off n).1.hand = p.hand := by unfold Pt.get; split <;> rfl
theorem releaseHand (p : Pt) (i : Int) : (p.release i).1.hand = p.hand := by
  unfold Pt.release
  split
  · rfl
  · split <;> rfl
theorem DocM.keep {m' : Mc} {p' : Pt} {a c r at_ ct rt ag cg rg} {D H : HL} (h2 : RoSl 6 (dflat p'.fs) a p'.fs.length r) (h3 : RoSl 3 (ios m'.todo) at_ m'.todo.length rt) (h4 : RoSl 1 (u8s m'.got) ag m'.got.length rg) (h5 : m'.todo.length ≤ ct)
    (h6 : ∀ q ∈ r, q ∈ H ++ D) (h7 : ∀ q ∈ rt, q ∈ H ++ D) (h8 : ∀ q ∈ rg, q ∈ D) :
    DocM m' p' (.agg (List.toArray [.slice a p'.fs.length c, .int .i64 p'.hand, .int .i64 m'.op, .int .i64 m'.page, .slice at_ m'.todo.length ct, .int .i64 m'.to, .slice ag m'.got.length cg])) (H ++ D) :=
  ⟨a, c, r, at_, ct, rt, ag, cg, rg, rfl, h2, h3, h4, h5, h6, h7, fun q hq => List.mem_append_right _ (h8 q hq)⟩
theorem RBegin4_spec (m : Mc) (p : Pt) (hi : p.Inv) (v : Value) (D : HL) (hd : DocM m p v D) (q : Rq) (h : q.op = 4) (aq : Option Addr) (cq : Nat) : Ctr Try.prog 28 [v, q.v aq cq] [] D (DocOut (mBegin m p q) D) := by
  obtain ⟨qo, qp, qf, ql, qd⟩ := q
  simp only at h
  subst h
  obtain ⟨a, c, r, at_, ct, rt, ag, cg, rg, rfl, h2, h3, h4, h5, h6, h7, h8⟩ := hd
  have hF := RFindP_spec p hi p.hand (.agg #[.slice a p.fs.length c, .int .i64 p.hand]) D ⟨a, c, r, rfl, h2, h6⟩ qp
  have hDo := RDo1_spec p hi (.agg #[.slice a p.fs.length c, .int .i64 p.hand]) D ⟨a, c, r, rfl, h2, h6⟩ qp
  have hh := doPageHand p qp Fr.unpin
  have hb : mBegin m p ⟨4, qp, qf, ql, qd⟩ = (⟨4, qp, m.to, m.todo, m.got⟩, (p.doPage qp Fr.unpin).1, Re.dn (p.doPage qp Fr.unpin).2) := rfl
  rw [hb]
  generalize p.doPage qp Fr.unpin = o at *
  obtain ⟨p', e⟩ := o
  simp only at *
  refine Ctr.enter (n := 210) [.cell 4 36, .cell 5 77] [(0, _), (1, _)] Try.func28 rfl rfl rfl (lb rfl) Try.call28 ⟨rfl, rfl, trivial⟩ ?_
  intro cx fin fin0
  refine aG ?_
  repeat (first | refine gw ?_ | refine gN fun _ => ?_ | refine gB fun _ => ?_ | fail)
  refine aC (o := hF) (h := ?_) (hro := RoIn.all (fun p hp => by simp [hp]))
  rintro _ _ ⟨rfl, rfl⟩
  refine aG ?_
  repeat (first | refine gx ?_ | refine gN fun _ => ?_ | refine gB fun _ => ?_ | fail)
  refine aC (o := hDo) (h := ?_) (hro := RoIn.all (fun p hp => by simp [hp]))
  rintro _ _ ⟨H, v1, rfl, rfl, a2, c2, r2, rfl, hro2, hsub2⟩
  refine aG ?_
  rw [← hh]
  repeat (first | refine gx ?_ | refine gN fun _ => ?_ | refine gB fun _ => ?_ | fail)
  refine aBu (ps := [_, _]) ?_
  repeat (first | refine gx ?_ | refine gN fun _ => ?_ | refine gB fun _ => ?_ | fail)
  refine W.order [1, 1, 1] rfl ?_
  refine W.ret (fin _ _ (FinOk.first 1 (aRc (aRc .nil)) rfl ?_))
  exact ⟨H, _, rfl, rfl, DocM.keep (p' := p') (m' := ⟨4, qp, m.to, m.todo, m.got⟩) (by assumption) h3 h4 h5 hsub2 (fun q hq => by simp [h7 q hq]) h8⟩
theorem RBegin8_spec (m : Mc) (p : Pt) (hi : p.Inv) (v : Value) (D : HL) (hd : DocM m p v D) (q : Rq) (h : q.op = 8) (aq : Option Addr) (cq : Nat) : Ctr Try.prog 28 [v, q.v aq cq] [] D (DocOut (mBegin m p q) D) := by
  obtain ⟨qo, qp, qf, ql, qd⟩ := q
  simp only at h
  subst h
  obtain ⟨a, c, r, at_, ct, rt, ag, cg, rg, rfl, h2, h3, h4, h5, h6, h7, h8⟩ := hd
  have hF := RFindP_spec p hi p.hand (.agg #[.slice a p.fs.length c, .int .i64 p.hand]) D ⟨a, c, r, rfl, h2, h6⟩ qp
  have hb : mBegin m p ⟨8, qp, qf, ql, qd⟩ = (⟨8, qp, m.to, m.todo, m.got⟩, p, Re.dn 0) := rfl
  rw [hb]
  refine Ctr.enter (n := 210) [.cell 4 36, .cell 5 77] [(0, _), (1, _)] Try.func28 rfl rfl rfl (lb rfl) Try.call28 ⟨rfl, rfl, trivial⟩ ?_
  intro cx fin fin0
  refine aG ?_
  repeat (first | refine gw ?_ | refine gN fun _ => ?_ | refine gB fun _ => ?_ | fail)
  refine aC (o := hF) (h := ?_) (hro := RoIn.all (fun p hp => by simp [hp]))
  rintro _ _ ⟨rfl, rfl⟩
  refine aG ?_
  repeat (first | refine gx ?_ | refine gN fun _ => ?_ | refine gB fun _ => ?_ | fail)
  refine aBu (ps := [_]) ?_
  repeat (first | refine gx ?_ | refine gN fun _ => ?_ | refine gB fun _ => ?_ | fail)
  refine W.nilChunk ?_
  refine W.order [0, 0, 0] rfl ?_
  refine W.ret (fin _ _ (FinOk.first 1 (aRc (aRc .nil)) rfl ?_))
  have H : HL := []
  exact ⟨[], _, rfl, rfl, DocM.keep (p' := p) (m' := ⟨8, qp, m.to, m.todo, m.got⟩) (H := []) (by assumption) h3 h4 h5 h6 h7 h8⟩
theorem RBegin2_spec (m : Mc) (p : Pt) (hi : p.Inv) (v : Value) (D : HL) (hd : DocM m p v D) (q : Rq) (h : q.op = 2) (ho : i64s q.off) (hl : i64s q.len) (aq : Option Addr) (cq : Nat) : Ctr Try.prog 28 [v, q.v aq cq] [] D (DocOut (mBegin m p q) D) := by
  obtain ⟨qo, qp, qf, ql, qd⟩ := q
  simp only at h
  subst h
  obtain ⟨a, c, r, at_, ct, rt, ag, cg, rg, rfl, h2, h3, h4, h5, h6, h7, h8⟩ := hd
  have hF := RFindP_spec p hi p.hand (.agg #[.slice a p.fs.length c, .int .i64 p.hand]) D ⟨a, c, r, rfl, h2, h6⟩ qp
  have hDo := RDo2_spec p hi (.agg #[.slice a p.fs.length c, .int .i64 p.hand]) D ⟨a, c, r, rfl, h2, h6⟩ qp qf ql ho hl
  have hh := getHand p qp qf ql
  have hb : mBegin m p ⟨2, qp, qf, ql, qd⟩ = (⟨2, qp, m.to, m.todo, m.got⟩, (p.get qp qf ql).1, if (p.get qp qf ql).2.2 = 0 then ⟨true, 0, false, (p.get qp qf ql).2.1, ⟨0, 0, 0, 1, 0, 0⟩⟩ else Re.dn (p.get qp qf ql).2.2) := rfl
  rw [hb]
  generalize p.get qp qf ql = o at *
  obtain ⟨p', bs, e⟩ := o
  simp only at *
  refine Ctr.enter (n := 210) [.cell 4 36, .cell 5 77] [(0, _), (1, _)] Try.func28 rfl rfl rfl (lb rfl) Try.call28 ⟨rfl, rfl, trivial⟩ ?_
  intro cx fin fin0
  refine aG ?_
  repeat (first | refine gw ?_ | refine gN fun _ => ?_ | refine gB fun _ => ?_ | fail)
  refine aC (o := hF) (h := ?_) (hro := RoIn.all (fun p hp => by simp [hp]))
  rintro _ _ ⟨rfl, rfl⟩
  refine aG ?_
  repeat (first | refine gx ?_ | refine gN fun _ => ?_ | refine gB fun _ => ?_ | fail)
  refine aC (o := hDo) (h := ?_) (hro := RoIn.all (fun p hp => by simp [hp]))
  rintro _ _ ⟨H, v1, ab, lb, cb, rfl, rfl, ⟨a2, c2, r2, rfl, hro2, hsub2⟩, rb, hsb, hrb, rfl⟩
  refine aG ?_
  rw [← hh]
  by_cases he : e = 0
  · subst he
    repeat (first | refine gx ?_ | refine gN fun _ => ?_ | refine gB fun _ => ?_ | fail)
    refine W.drawH tab_ok 7 [.b false, .b false, .b false, .b false, .b false, .b true, .b true] [2,3] follows (by decide +kernel) (by decide +kernel) rfl (by decide) rfl ?_
    intro _
    refine dG ?_
    repeat (first | refine dL ?_ | refine dS ?_ | (refine dN ?_; intro _; refine dG ?_) | (refine dB ?_; intro _; refine dG ?_) | fail)
    refine dV (OpVal.bytesStr tab_ok rfl rfl rfl rfl hrb (fun q hq => .inr (List.mem_append_left _ (List.mem_flatten.2 ⟨H, by simp, hsb q hq⟩)))) ?_
    refine dV (OpVal.build (ps := [_]) tab_ok rfl rfl rfl rfl (by repeat (first | exact trivial | refine ⟨⟨_, _, _, rfl, rfl, rfl⟩, ?_⟩)) rfl) ?_
    refine dV (OpVal.build (ps := [_, _, _]) tab_ok rfl rfl rfl rfl (by repeat (first | exact trivial | refine ⟨⟨_, _, _, rfl, rfl, rfl⟩, ?_⟩)) rfl) ?_
    repeat (first | refine dL ?_ | refine dS ?_ | (refine dN ?_; intro _; refine dG ?_) | (refine dB ?_; intro _; refine dG ?_) | fail)
    refine WD.nil (W.dropNil (aG ?_))
    refine W.order [3, 0, 0] rfl ?_
    refine W.ret (fin _ _ (FinOk.first 1 (aRc (aRc .nil)) rfl ?_))
    rw [if_pos rfl]
    exact ⟨H, _, rfl, rfl, DocM.keep (p' := p') (m' := ⟨2, qp, m.to, m.todo, m.got⟩) (by assumption) h3 h4 h5 hsub2 (fun q hq => by simp [h7 q hq]) h8⟩
  · skip
    repeat (first | refine gh he ?_ | refine gN fun _ => ?_ | refine gB fun _ => ?_ | fail)
    refine aBu (ps := [_, _]) ?_
    repeat (first | refine gx ?_ | refine gN fun _ => ?_ | refine gB fun _ => ?_ | fail)
    refine W.order [1, 1, 1] rfl ?_
    refine W.ret (fin _ _ (FinOk.first 1 (aRc (aRc .nil)) rfl ?_))
    rw [if_neg he]
    exact ⟨H, _, rfl, rfl, DocM.keep (p' := p') (m' := ⟨2, qp, m.to, m.todo, m.got⟩) (by assumption) h3 h4 h5 hsub2 (fun q hq => by simp [h7 q hq]) h8⟩
theorem RBegin3_spec (m : Mc) (p : Pt) (hi : p.Inv) (v : Value) (D : HL) (hd : DocM m p v D) (q : Rq) (h : q.op = 3) (ho : i64s q.off) (aq : Option Addr) (cq : Nat) (hqd : q.data.length ≤ 1000000) (rq : HL) (hrq : RoSl 1 (u8s q.data) aq q.data.length rq) : Ctr Try.prog 28 [v, q.v aq cq] [] (D ++ rq) (DocOut (mBegin m p q) D) := by
  obtain ⟨qo, qp, qf, ql, qd⟩ := q
  simp only at h
  subst h
  obtain ⟨a, c, r, at_, ct, rt, ag, cg, rg, rfl, h2, h3, h4, h5, h6, h7, h8⟩ := hd
  have hF := RFindP_spec p hi p.hand (.agg #[.slice a p.fs.length c, .int .i64 p.hand]) D ⟨a, c, r, rfl, h2, h6⟩ qp
  have hDo := RDo3_spec p hi (.agg #[.slice a p.fs.length c, .int .i64 p.hand]) D ⟨a, c, r, rfl, h2, h6⟩ qp qf ho qd aq cq hqd rq hrq
  have hh := doPageHand p qp (fun f => f.put qf qd)
  have hb : mBegin m p ⟨3, qp, qf, ql, qd⟩ = (⟨3, qp, m.to, m.todo, m.got⟩, (p.doPage qp (fun f => f.put qf qd)).1, if (p.doPage qp (fun f => f.put qf qd)).2 = 0 then ⟨true, 0, false, [], ⟨0, 0, 0, 0, 1, 0⟩⟩ else Re.dn (p.doPage qp (fun f => f.put qf qd)).2) := rfl
  rw [hb]
  generalize p.doPage qp (fun f => f.put qf qd) = o at *
  obtain ⟨p', e⟩ := o
  simp only at *
  refine Ctr.enter (n := 210) [.cell 4 36, .cell 5 77] [(0, _), (1, _)] Try.func28 rfl rfl rfl (lb rfl) Try.call28 ⟨rfl, rfl, trivial⟩ ?_
  intro cx fin fin0
  refine aG ?_
  repeat (first | refine gw ?_ | refine gN fun _ => ?_ | refine gB fun _ => ?_ | fail)
  refine aC (o := hF) (h := ?_) (hro := RoIn.all (fun p hp => by simp [hp]))
  rintro _ _ ⟨rfl, rfl⟩
  refine aG ?_
  repeat (first | refine gx ?_ | refine gN fun _ => ?_ | refine gB fun _ => ?_ | fail)
  refine aC (o := hDo) (h := ?_) (hro := RoIn.all (fun p hp => by simp at hp; simp [hp]))
  rintro _ _ ⟨H, v1, rfl, rfl, a2, c2, r2, rfl, hro2, hsub2⟩
  refine aG ?_
  rw [← hh]
  by_cases he : e = 0
  · subst he
    repeat (first | refine gx ?_ | refine gN fun _ => ?_ | refine gB fun _ => ?_ | fail)
    refine aBu (ps := [_]) ?_
    refine aBu (ps := [_, _]) ?_
    repeat (first | refine gx ?_ | refine gN fun _ => ?_ | refine gB fun _ => ?_ | fail)
    refine W.order [1, 1, 1] rfl ?_
    refine W.ret (fin _ _ (FinOk.first 1 (aRc (aRc .nil)) rfl ?_))
    rw [if_pos rfl]
    exact ⟨H, _, rfl, rfl, DocM.keep (p' := p') (m' := ⟨3, qp, m.to, m.todo, m.got⟩) (by assumption) h3 h4 h5 hsub2 (fun q hq => by simp [h7 q hq]) h8⟩
  · skip
    repeat (first | refine gh he ?_ | refine gN fun _ => ?_ | refine gB fun _ => ?_ | fail)
    refine aBu (ps := [_, _]) ?_
    repeat (first | refine gx ?_ | refine gN fun _ => ?_ | refine gB fun _ => ?_ | fail)
    refine W.order [1, 1, 1] rfl ?_
    refine W.ret (fin _ _ (FinOk.first 1 (aRc (aRc .nil)) rfl ?_))
    rw [if_neg he]
    exact ⟨H, _, rfl, rfl, DocM.keep (p' := p') (m' := ⟨3, qp, m.to, m.todo, m.got⟩) (by assumption) h3 h4 h5 hsub2 (fun q hq => by simp [h7 q hq]) h8⟩
theorem RBegin7_spec (m : Mc) (p : Pt) (hi : p.Inv) (v : Value) (D : HL) (hd : DocM m p v D) (q : Rq) (h : q.op = 7) (aq : Option Addr) (cq : Nat) : Ctr Try.prog 28 [v, q.v aq cq] [] D (DocOut (mBegin m p q) D) := by
  obtain ⟨qo, qp, qf, ql, qd⟩ := q
  simp only at h
  subst h
  obtain ⟨a, c, r, at_, ct, rt, ag, cg, rg, rfl, h2, h3, h4, h5, h6, h7, h8⟩ := hd
  have hF := RFindP_spec p hi p.hand (.agg #[.slice a p.fs.length c, .int .i64 p.hand]) D ⟨a, c, r, rfl, h2, h6⟩ qp
  have hR := fun i => RReleaseP_spec p hi (.agg #[.slice a p.fs.length c, .int .i64 p.hand]) D ⟨a, c, r, rfl, h2, h6⟩ i
  have hh := fun i => releaseHand p i
  have hb : mBegin m p ⟨7, qp, qf, ql, qd⟩ = (⟨7, qp, m.to, m.todo, m.got⟩, (mDiscard p qp).1, Re.dn (mDiscard p qp).2) := rfl
  rw [hb]
  unfold mDiscard
  cases hg : mget p.tbl qp with
  | none =>
    rw [hg] at hF
    refine Ctr.enter (n := 210) [.cell 4 36, .cell 5 77] [(0, _), (1, _)] Try.func28 rfl rfl rfl (lb rfl) Try.call28 ⟨rfl, rfl, trivial⟩ ?_
    intro cx fin fin0
    refine aG ?_
    repeat (first | refine gw ?_ | refine gN fun _ => ?_ | refine gB fun _ => ?_ | fail)
    refine aC (o := hF) (h := ?_) (hro := RoIn.all (fun p hp => by simp [hp]))
    rintro _ _ ⟨rfl, rfl⟩
    refine aG ?_
    repeat (first | refine gx ?_ | refine gN fun _ => ?_ | refine gB fun _ => ?_ | fail)
    refine aBu (ps := [_]) ?_
    repeat (first | refine gx ?_ | refine gN fun _ => ?_ | refine gB fun _ => ?_ | fail)
    refine W.nilChunk ?_
    refine W.order [0, 0, 0] rfl ?_
    refine W.ret (fin _ _ (FinOk.first 1 (aRc (aRc .nil)) rfl ?_))
    exact ⟨[], _, rfl, rfl, DocM.keep (p' := p) (m' := ⟨7, qp, m.to, m.todo, m.got⟩) (H := []) (by assumption) h3 h4 h5 h6 h7 h8⟩
  | some i =>
    obtain ⟨j, hj, rfl, -, -⟩ := hi.tbl qp i hg
    rw [hg] at hF
    have c1 : ¬ ((j : Int) < 0) := by omega
    replace hh := hh j
    replace hR := hR j
    simp only
    generalize p.release j = o at *
    obtain ⟨p', e⟩ := o
    simp only at *
    refine Ctr.enter (n := 210) [.cell 4 36, .cell 5 77] [(0, _), (1, _)] Try.func28 rfl rfl rfl (lb rfl) Try.call28 ⟨rfl, rfl, trivial⟩ ?_
    intro cx fin fin0
    refine aG ?_
    repeat (first | refine gw ?_ | refine gN fun _ => ?_ | refine gB fun _ => ?_ | fail)
    refine aC (o := hF) (h := ?_) (hro := RoIn.all (fun p hp => by simp [hp]))
    rintro _ _ ⟨rfl, rfl⟩
    refine aG ?_
    repeat (first | refine gh c1 ?_ | refine gN fun _ => ?_ | refine gB fun _ => ?_ | fail)
    refine aC (o := hR) (h := ?_) (hro := RoIn.all (fun p hp => by simp [hp]))
    rintro _ _ ⟨H, v1, rfl, rfl, a2, c2, r2, rfl, hro2, hsub2⟩
    refine aG ?_
    rw [← hh]
    repeat (first | refine gx ?_ | refine gN fun _ => ?_ | refine gB fun _ => ?_ | fail)
    refine aBu (ps := [_, _]) ?_
    repeat (first | refine gx ?_ | refine gN fun _ => ?_ | refine gB fun _ => ?_ | fail)
    refine W.order [1, 1, 1] rfl ?_
    refine W.ret (fin _ _ (FinOk.first 1 (aRc (aRc .nil)) rfl ?_))
    exact ⟨H, _, rfl, rfl, DocM.keep (p' := p') (m' := ⟨7, qp, m.to, m.todo, m.got⟩) (by assumption) h3 h4 h5 hsub2 (fun q hq => by simp [h7 q hq]) h8⟩
theorem RBegin1_spec (m : Mc) (p : Pt) (hi : p.Inv) (v : Value) (D : HL) (hd : DocM m p v D) (q : Rq) (h : q.op = 1) (aq : Option Addr) (cq : Nat) : Ctr Try.prog 28 [v, q.v aq cq] [] D (DocOut (mBegin m p q) D) := by
  obtain ⟨qo, qp, qf, ql, qd⟩ := q
  simp only at h
  subst h
  obtain ⟨a, c, r, at_, ct, rt, ag, cg, rg, rfl, h2, h3, h4, h5, h6, h7, h8⟩ := hd
  have hF := RFindP_spec p hi p.hand (.agg #[.slice a p.fs.length c, .int .i64 p.hand]) D ⟨a, c, r, rfl, h2, h6⟩ qp
  have hM := RMiss_spec ⟨1, qp, m.to, m.todo, m.got⟩ p hi (.agg (List.toArray [.slice a p.fs.length c, .int .i64 p.hand, .int .i64 1, .int .i64 qp, .slice at_ m.todo.length ct, .int .i64 m.to, .slice ag m.got.length cg])) D ⟨a, c, r, at_, ct, rt, ag, cg, rg, rfl, h2, h3, h4, h5, h6, h7, h8⟩
  have hDo := RDo0_spec p hi (.agg #[.slice a p.fs.length c, .int .i64 p.hand]) D ⟨a, c, r, rfl, h2, h6⟩ qp
  have hb : mBegin m p ⟨1, qp, qf, ql, qd⟩ = mFetch ⟨1, qp, m.to, m.todo, m.got⟩ p := rfl
  rw [hb]
  unfold mFetch
  simp only
  cases hg : mget p.tbl qp with
  | none =>
    rw [hg] at hF
    rw [if_neg (by simp)]
    generalize mMiss ⟨1, qp, m.to, m.todo, m.got⟩ p = o at *
    refine Ctr.enter (n := 210) [.cell 4 36, .cell 5 77] [(0, _), (1, _)] Try.func28 rfl rfl rfl (lb rfl) Try.call28 ⟨rfl, rfl, trivial⟩ ?_
    intro cx fin fin0
    refine aG ?_
    repeat (first | refine gw ?_ | refine gN fun _ => ?_ | refine gB fun _ => ?_ | fail)
    refine aC (o := hF) (h := ?_) (hro := RoIn.all (fun p hp => by simp [hp]))
    rintro _ _ ⟨rfl, rfl⟩
    refine aG ?_
    repeat (first | refine gx ?_ | refine gN fun _ => ?_ | refine gB fun _ => ?_ | fail)
    refine aC (o := hM) (h := ?_) (hro := RoIn.all (fun p hp => by simp [hp]))
    rintro _ _ ⟨H, v1, rfl, rfl, a2, c2, r2, at2, ct2, rt2, ag2, cg2, rg2, rfl, k2, k3, k4, k5, k6, k7, k8⟩
    refine aG ?_
    repeat (first | refine gx ?_ | refine gN fun _ => ?_ | refine gB fun _ => ?_ | fail)
    refine W.order [0, 0, 0] rfl ?_
    refine W.ret (fin _ _ (FinOk.first 1 (aRc (aRc .nil)) rfl ?_))
    exact ⟨H, _, rfl, rfl, a2, c2, r2, at2, ct2, rt2, ag2, cg2, rg2, rfl, k2, k3, k4, k5, k6, k7, k8⟩
  | some i =>
    obtain ⟨j, hj, rfl, -, -⟩ := hi.tbl qp i hg
    rw [hg] at hF
    have c1 : ¬ ((j : Int) < 0) := by omega
    have hh := doPageHand p qp Fr.pin
    rw [if_pos (show (some (j : Int)).isSome = true from rfl)]
    generalize p.doPage qp Fr.pin = o at *
    obtain ⟨p', e⟩ := o
    simp only at *
    by_cases he : e = 0
    case' pos =>
      subst he
      refine Ctr.enter (n := 210) [.cell 4 36, .cell 5 77] [(0, _), (1, _)] Try.func28 rfl rfl rfl (lb rfl) Try.call28 ⟨rfl, rfl, trivial⟩ ?_
      intro cx fin fin0
      refine aG ?_
      repeat (first | refine gw ?_ | refine gN fun _ => ?_ | refine gB fun _ => ?_ | fail)
      refine aC (o := hF) (h := ?_) (hro := RoIn.all (fun p hp => by simp [hp]))
      rintro _ _ ⟨rfl, rfl⟩
      refine aG ?_
      repeat (first | refine gh c1 ?_ | refine gN fun _ => ?_ | refine gB fun _ => ?_ | fail)
      refine aC (o := hDo) (h := ?_) (hro := RoIn.all (fun p hp => by simp [hp]))
      rintro _ _ ⟨H, v1, rfl, rfl, a2, c2, r2, rfl, hro2, hsub2⟩
      refine aG ?_
      rw [← hh]
      repeat (first | refine gx ?_ | refine gN fun _ => ?_ | refine gB fun _ => ?_ | fail)
      refine aBu (ps := [_]) ?_
      refine aBu (ps := [_, _, _]) ?_
      repeat (first | refine gx ?_ | refine gN fun _ => ?_ | refine gB fun _ => ?_ | fail)
    case' neg =>
      refine Ctr.enter (n := 210) [.cell 4 36, .cell 5 77] [(0, _), (1, _)] Try.func28 rfl rfl rfl (lb rfl) Try.call28 ⟨rfl, rfl, trivial⟩ ?_
      intro cx fin fin0
      refine aG ?_
      repeat (first | refine gw ?_ | refine gN fun _ => ?_ | refine gB fun _ => ?_ | fail)
      refine aC (o := hF) (h := ?_) (hro := RoIn.all (fun p hp => by simp [hp]))
      rintro _ _ ⟨rfl, rfl⟩
      refine aG ?_
      repeat (first | refine gh c1 ?_ | refine gN fun _ => ?_ | refine gB fun _ => ?_ | fail)
      refine aC (o := hDo) (h := ?_) (hro := RoIn.all (fun p hp => by simp [hp]))
      rintro _ _ ⟨H, v1, rfl, rfl, a2, c2, r2, rfl, hro2, hsub2⟩
      refine aG ?_
      rw [← hh]
      repeat (first | refine gh he ?_ | refine gN fun _ => ?_ | refine gB fun _ => ?_ | fail)
      refine aBu (ps := [_, _]) ?_
      repeat (first | refine gx ?_ | refine gN fun _ => ?_ | refine gB fun _ => ?_ | fail)
    all_goals
      refine W.order [1, 1, 1] rfl ?_
      refine W.ret (fin _ _ (FinOk.first 1 (aRc (aRc .nil)) rfl ?_))
      first | rw [if_pos rfl] | rw [if_neg he]
      exact ⟨H, _, rfl, rfl, DocM.keep (p' := p') (m' := ⟨1, qp, m.to, m.todo, m.got⟩) (by assumption) h3 h4 h5 hsub2 (fun q hq => by simp [h7 q hq]) h8⟩
end Go.Proofs.Ytgipjpiiomgjjaa
