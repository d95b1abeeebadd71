/-
  The machine of the program: what each operation does.
-/
import Derived.Test.YtgipjpiiomgjjaaMb
namespace Go.Proofs.Ytgipjpiiomgjjaa
open Go Go.Sl Go.IntWalk
set_option maxHeartbeats 8000000
set_option maxRecDepth 20000
/-- Of bytes: what comes of a call, and the part. -/
def mRead (p : Pt) (q : Rq) : Pt × Re := ((p.get q.page q.off q.len).1, if (p.get q.page q.off q.len).2.2 = 0 then ⟨true, 0, false, (p.get q.page q.off q.len).2.1, ⟨0, 0, 0, 1, 0, 0⟩⟩ else Re.dn (p.get q.page q.off q.len).2.2)
def mWrite (p : Pt) (q : Rq) : Pt × Re := ((p.doPage q.page fun f => f.put q.off q.data).1, if (p.doPage q.page fun f => f.put q.off q.data).2 = 0 then ⟨true, 0, false, [], ⟨0, 0, 0, 0, 1, 0⟩⟩ else Re.dn (p.doPage q.page fun f => f.put q.off q.data).2)
theorem get_err {p : Pt} {page off n : Int} (h : (p.get page off n).2.2 ≠ 0) : (p.get page off n).2.1 = [] := by
  unfold Pt.get at *
  cases hg : mget p.tbl page with
  | none => rfl
  | some i =>
    rw [hg] at h
    simp only at h ⊢
    unfold Fr.get at *
    split
    · rfl
    · rename_i h1
      rw [if_neg h1] at h
      split
      · rfl
      · rename_i h2
        rw [if_neg h2] at h
        exact absurd rfl h
theorem Read_spec (m : Mc) (b bp : Nat) (H : HL) (hm : MAt m b bp H) (p : Pt) (hi : p.Inv) (Hp : HL) (hp : PtAt p bp Hp) (q : Rq) (ho : i64s q.off) (aq : Option Addr) (cq : Nat) (b1 : Nat) :
    Ctr Try.prog 59 [q.v aq cq, .pointer (some ⟨b1, 0, none⟩)] [Hp] ((b1, .cells #[.pointer (some ⟨b, 0, none⟩)] 37 (0, 0)) :: H) (fun v L' => ∃ a n c Hp' Hd, v = (mRead p q).2.v a n c ∧ L' = [Hp', Hd] ∧ PtAt (mRead p q).1 bp Hp' ∧ RoSl 1 (u8s (mRead p q).2.data) a n Hd ∧ (mRead p q).2.data.length = n) := by
  obtain ⟨t, g, ⟨at_, ct, rfl⟩, ⟨ag, cg, rfl⟩, hb⟩ := hm.head
  have hat : ∀ (y : Nat × Obj) L, At (y :: H) L b _ := fun y L => .inr (List.mem_cons_of_mem _ hb)
  have hG := PGet_spec p hi bp Hp hp q.page q.off q.len ho
  have hC := fun bs a n c => counted_spec (p.get q.page q.off q.len).2.2 bs a n c ⟨0, 0, 0, 1, 0, 0⟩
  have hge := fun h => get_err (p := p) (page := q.page) (off := q.off) (n := q.len) h
  have hmr : mRead p q = mRead p q := rfl
  conv at hmr => rhs; unfold mRead
  generalize mRead p q = out at *
  obtain ⟨qo, qp, qf, ql, qd⟩ := q
  simp only at *
  refine Ctr.enter (n := 24) [.cell 3 52] [(0, _), (1, _)] Try.func59 rfl rfl rfl (lb rfl) Try.call59 ⟨rfl, rfl, trivial⟩ ?_
  intro cx fin fin0
  refine aG ?_
  repeat (first | refine gw ?_ | refine gN fun _ => ?_ | refine gB fun _ => ?_ | fail)
  refine W.drawH tab_ok 16 [.b false, .b false, .b false, .b false, .b false, .b false, .b false, .b false, .b false, .b false, .b true, .b false, .b false, .b false, .b false, .b false] [2] follows (by decide +kernel) (by decide +kernel) rfl (by decide) rfl ?_
  intro _
  refine dG ?_
  repeat (first | refine dL ?_ | refine dS ?_ | (refine dN ?_; intro _; refine dG ?_) | (refine dB ?_; intro _; refine dG ?_) | fail)
  refine dV (OpVal.load tab_ok rfl (.inr (List.mem_append_right _ (List.mem_cons_of_mem _ hb))) rfl) ?_
  repeat (first | refine dL ?_ | refine dS ?_ | (refine dN ?_; intro _; refine dG ?_) | (refine dB ?_; intro _; refine dG ?_) | fail)
  refine dC (o := hG) (h := ?_)
  rintro _ _ ⟨a, n, c, Hp2, Hs, rfl, rfl, hp2, hrs, hrn⟩
  refine dG ?_
  refine WD.nil (W.dropNil (aG ?_))
  refine aBu (ps := [_]) ?_
  by_cases he : (p.get qp qf ql).2.2 = 0
  · rw [if_pos he] at hmr
    subst hmr
    have hC1 := hC (p.get qp qf ql).2.1 a n c
    rw [if_pos he] at hC1
    refine aC (o := hC1) (h := ?_)
    rintro _ _ ⟨rfl, rfl⟩
    refine aG ?_
    repeat (first | refine gw ?_ | refine gN fun _ => ?_ | refine gB fun _ => ?_ | fail)
    refine W.ret (fin _ _ (FinOk.first 2 (aRc .nil) rfl ?_))
    exact ⟨_, _, _, _, _, rfl, rfl, hp2, hrs, hrn⟩
  · rw [if_neg he] at hmr
    subst hmr
    have hC1 := hC (p.get qp qf ql).2.1 a n c
    rw [if_neg he] at hC1
    refine aC (o := hC1) (h := ?_)
    rintro _ _ ⟨rfl, rfl⟩
    refine aG ?_
    repeat (first | refine gw ?_ | refine gN fun _ => ?_ | refine gB fun _ => ?_ | fail)
    rw [hge he] at hrs hrn
    refine W.order [0, 1] rfl ?_
    refine W.nilChunk ?_
    refine W.order [1, 0, 0] rfl ?_
    refine W.ret (fin _ _ (FinOk.first 2 (aRc .nil) rfl ?_))
    exact ⟨_, _, _, _, _, rfl, rfl, hp2, ⟨rfl, .inl ⟨rfl, rfl⟩⟩, rfl⟩
theorem Write_spec (m : Mc) (b bp : Nat) (H : HL) (hm : MAt m b bp H) (p : Pt) (hi : p.Inv) (Hp : HL) (hp : PtAt p bp Hp) (q : Rq) (ho : i64s q.off) (aq : Option Addr) (cq : Nat) (rq : HL) (hrq : RoSl 1 (u8s q.data) aq q.data.length rq) (b1 : Nat) :
    Ctr Try.prog 62 [q.v aq cq, .pointer (some ⟨b1, 0, none⟩)] [Hp] ((b1, .cells #[.pointer (some ⟨b, 0, none⟩)] 37 (0, 0)) :: (H ++ rq)) (fun v L' => ∃ Hp', v = (mWrite p q).2.v none 0 0 ∧ L' = [Hp'] ∧ PtAt (mWrite p q).1 bp Hp') := by
  obtain ⟨t, g, ⟨at_, ct, rfl⟩, ⟨ag, cg, rfl⟩, hb⟩ := hm.head
  have hG := PPut_spec p hi bp Hp hp q.page q.off ho q.data aq cq rq hrq
  have hC := counted_spec (p.doPage q.page fun f => f.put q.off q.data).2 [] none 0 0 ⟨0, 0, 0, 0, 1, 0⟩
  have hmr : mWrite p q = mWrite p q := rfl
  conv at hmr => rhs; unfold mWrite
  generalize mWrite p q = out at *
  obtain ⟨qo, qp, qf, ql, qd⟩ := q
  simp only at *
  by_cases he : (p.doPage qp fun f => f.put qf qd).2 = 0
  case' pos => rw [if_pos he] at hmr hC
  case' neg => rw [if_neg he] at hmr hC
  all_goals
    subst hmr
    refine Ctr.enter (n := 17) [.cell 3 52] [(0, _), (1, _)] Try.func62 rfl rfl rfl (lb rfl) Try.call62 ⟨rfl, rfl, trivial⟩ ?_
    intro cx fin fin0
    refine aG ?_
    repeat (first | refine gw ?_ | refine gN fun _ => ?_ | refine gB fun _ => ?_ | fail)
    refine W.drawH tab_ok 14 [.b false, .b false, .b false, .b false, .b false, .b false, .b false, .b false, .b false, .b false, .b true, .b false, .b true, .b true] [0,2] follows (by decide +kernel) (by decide +kernel) rfl (by decide) rfl ?_
    intro _
    refine dG ?_
    repeat (first | refine dL ?_ | refine dS ?_ | (refine dN ?_; intro _; refine dG ?_) | (refine dB ?_; intro _; refine dG ?_) | fail)
    refine dV (OpVal.load tab_ok rfl (.inr (List.mem_append_right _ (List.mem_cons_of_mem _ (List.mem_append_left _ hb)))) rfl) ?_
    repeat (first | refine dL ?_ | refine dS ?_ | (refine dN ?_; intro _; refine dG ?_) | (refine dB ?_; intro _; refine dG ?_) | fail)
    refine dC (o := hG) (h := ?_) (hro := RoIn.all (fun q hq => List.mem_append_right _ (List.mem_cons_of_mem _ (List.mem_append_right _ hq))))
    rintro _ _ ⟨rfl, Hp2, rfl, hp2⟩
    refine dG ?_
    refine dV (OpVal.build (ps := [_]) tab_ok rfl rfl rfl rfl (by repeat (first | exact trivial | refine ⟨⟨_, _, _, rfl, rfl, rfl⟩, ?_⟩)) rfl) ?_
    refine dC (o := hC) (h := ?_)
    rintro _ _ ⟨rfl, rfl⟩
    refine dG ?_
    repeat (first | refine dL ?_ | refine dS ?_ | (refine dN ?_; intro _; refine dG ?_) | (refine dB ?_; intro _; refine dG ?_) | fail)
    refine WD.nil (W.dropNil (aG ?_))
    repeat (first | refine gw ?_ | refine gN fun _ => ?_ | refine gB fun _ => ?_ | fail)
    refine W.ret (fin _ _ (FinOk.first 1 (aRc .nil) rfl ?_))
    exact ⟨_, rfl, rfl, hp2⟩
theorem UnpinC_spec (m : Mc) (b bp : Nat) (H : HL) (hm : MAt m b bp H) (p : Pt) (hi : p.Inv) (Hp : HL) (hp : PtAt p bp Hp) (q : Rq) (aq : Option Addr) (cq : Nat) (b1 : Nat) :
    Ctr Try.prog 64 [q.v aq cq, .pointer (some ⟨b1, 0, none⟩)] [Hp] ((b1, .cells #[.pointer (some ⟨b, 0, none⟩)] 37 (0, 0)) :: H) (fun v L' => ∃ Hp', v = (Re.dn (p.doPage q.page Fr.unpin).2).v none 0 0 ∧ L' = [Hp'] ∧ PtAt (p.doPage q.page Fr.unpin).1 bp Hp') := by
  obtain ⟨t, g, ⟨at_, ct, rfl⟩, ⟨ag, cg, rfl⟩, hb⟩ := hm.head
  have hG := PUnpin_spec p hi bp Hp hp q.page
  have hC := done_spec (p.doPage q.page Fr.unpin).2
  obtain ⟨qo, qp, qf, ql, qd⟩ := q
  simp only at *
  refine Ctr.enter (n := 12) [.cell 3 52] [(0, _), (1, _)] Try.func64 rfl rfl rfl (lb rfl) Try.call64 ⟨rfl, rfl, trivial⟩ ?_
  intro cx fin fin0
  refine aG ?_
  repeat (first | refine gw ?_ | refine gN fun _ => ?_ | refine gB fun _ => ?_ | fail)
  refine W.drawH tab_ok 9 [.b false, .b false, .b false, .b false, .b false, .b false, .b true, .b true, .b true] [0,2] follows (by decide +kernel) (by decide +kernel) rfl (by decide) rfl ?_
  intro _
  refine dG ?_
  repeat (first | refine dL ?_ | refine dS ?_ | (refine dN ?_; intro _; refine dG ?_) | (refine dB ?_; intro _; refine dG ?_) | fail)
  refine dV (OpVal.load tab_ok rfl (.inr (List.mem_append_right _ (List.mem_cons_of_mem _ hb))) rfl) ?_
  repeat (first | refine dL ?_ | refine dS ?_ | (refine dN ?_; intro _; refine dG ?_) | (refine dB ?_; intro _; refine dG ?_) | fail)
  refine dC (o := hG) (h := ?_)
  rintro _ _ ⟨rfl, Hp2, rfl, hp2⟩
  refine dG ?_
  refine dC (o := hC) (h := ?_)
  rintro _ _ ⟨rfl, rfl⟩
  refine dG ?_
  repeat (first | refine dL ?_ | refine dS ?_ | (refine dN ?_; intro _; refine dG ?_) | (refine dB ?_; intro _; refine dG ?_) | fail)
  refine WD.nil (W.dropNil (aG ?_))
  repeat (first | refine gw ?_ | refine gN fun _ => ?_ | refine gB fun _ => ?_ | fail)
  refine W.ret (fin _ _ (FinOk.first 1 (aRc .nil) rfl ?_))
  exact ⟨_, rfl, rfl, hp2⟩
theorem FlushC_spec (m : Mc) (b bp : Nat) (H : HL) (hm : MAt m b bp H) (p : Pt) (hi : p.Inv) (Hp : HL) (hp : PtAt p bp Hp) (q : Rq) (aq : Option Addr) (cq : Nat) (b1 : Nat) :
    Ctr Try.prog 66 [q.v aq cq, .pointer (some ⟨b1, 0, none⟩)] [H] ((b1, .cells #[.pointer (some ⟨b, 0, none⟩)] 37 (0, 0)) :: Hp) (fun v L' => ∃ H', v = (⟨false, 0, false, [], C6.none⟩ : Re).v none 0 0 ∧ L' = [H'] ∧ MAt { m with todo := planFlush (selD p q.page p.dirty) } b bp H') := by
  have hF := MFlush_spec m b bp H hm p hi Hp hp q.page
  obtain ⟨qo, qp, qf, ql, qd⟩ := q
  simp only at *
  refine Ctr.enter (n := 8) [.cell 3 52] [(0, _), (1, _)] Try.func66 rfl rfl rfl (lb rfl) Try.call66 ⟨rfl, rfl, trivial⟩ ?_
  intro cx fin fin0
  refine aG ?_
  repeat (first | refine gw ?_ | refine gN fun _ => ?_ | refine gB fun _ => ?_ | fail)
  refine aC (o := hF) (h := ?_) (hro := RoIn.all (fun q hq => List.mem_cons_of_mem _ hq))
  rintro _ _ ⟨H2, rfl, rfl, hm2⟩
  refine aG ?_
  repeat (first | refine gw ?_ | refine gN fun _ => ?_ | refine gB fun _ => ?_ | fail)
  refine W.ret (fin _ _ (FinOk.first 1 (aRc .nil) rfl ?_))
  exact ⟨_, rfl, rfl, hm2⟩
theorem FlushAllC_spec (m : Mc) (b bp : Nat) (H : HL) (hm : MAt m b bp H) (p : Pt) (hi : p.Inv) (Hp : HL) (hp : PtAt p bp Hp) (q : Rq) (aq : Option Addr) (cq : Nat) (b1 : Nat) :
    Ctr Try.prog 68 [q.v aq cq, .pointer (some ⟨b1, 0, none⟩)] [H] ((b1, .cells #[.pointer (some ⟨b, 0, none⟩)] 37 (0, 0)) :: Hp) (fun v L' => ∃ H', v = (⟨false, 0, false, [], C6.none⟩ : Re).v none 0 0 ∧ L' = [H'] ∧ MAt { m with todo := planFlush (selD p (-1) p.dirty) } b bp H') := by
  have hF := MFlush_spec m b bp H hm p hi Hp hp (-1)
  obtain ⟨qo, qp, qf, ql, qd⟩ := q
  refine Ctr.enter (n := 6) [.cell 3 52] [(0, _), (1, _)] Try.func68 rfl rfl rfl (lb rfl) Try.call68 ⟨rfl, rfl, trivial⟩ ?_
  intro cx fin fin0
  refine aG ?_
  repeat (first | refine gw ?_ | refine gN fun _ => ?_ | refine gB fun _ => ?_ | fail)
  refine aC (o := hF) (h := ?_) (hro := RoIn.all (fun q hq => List.mem_cons_of_mem _ hq))
  rintro _ _ ⟨H2, rfl, rfl, hm2⟩
  refine aG ?_
  repeat (first | refine gw ?_ | refine gN fun _ => ?_ | refine gB fun _ => ?_ | fail)
  refine W.ret (fin _ _ (FinOk.first 1 (aRc .nil) rfl ?_))
  exact ⟨_, rfl, rfl, hm2⟩
theorem StatsC_spec (q : Rq) (aq : Option Addr) (cq : Nat) : Ctr Try.prog 70 [q.v aq cq] [] [] (fun v L' => v = (Re.dn 0).v none 0 0 ∧ L' = []) := by
  obtain ⟨qo, qp, qf, ql, qd⟩ := q
  refine Ctr.enter (n := 4) [.cell 2 52] [(0, _)] Try.func70 rfl rfl rfl (lb rfl) Try.call70 ⟨rfl, trivial⟩ ?_
  intro cx fin fin0
  refine aG ?_
  repeat (first | refine gw ?_ | refine gN fun _ => ?_ | refine gB fun _ => ?_ | fail)
  refine aC (o := done_spec 0) (h := ?_)
  rintro _ _ ⟨rfl, rfl⟩
  refine aG ?_
  repeat (first | refine gw ?_ | refine gN fun _ => ?_ | refine gB fun _ => ?_ | fail)
  refine W.ret (fin _ _ (FinOk.mk' ([]) (aRc .nil) (by repeat (first | exact Sel.nil | (apply Sel.cons; (repeat (first | exact Pick.here | apply Pick.there))))) rfl ?_))
  exact ⟨rfl, rfl⟩
/-- What an operation does: the machine, the part, what comes of it. -/
def mOp (m : Mc) (p : Pt) (q : Rq) : Mc × Pt × Re :=
  if q.op = 1 then mFetch m p else if q.op = 2 then (m, mRead p q) else if q.op = 3 then (m, mWrite p q) else if q.op = 4 then (m, (p.doPage q.page Fr.unpin).1, Re.dn (p.doPage q.page Fr.unpin).2)
  else if q.op = 5 then ({ m with todo := planFlush (selD p q.page p.dirty) }, p, ⟨false, 0, false, [], C6.none⟩) else if q.op = 6 then ({ m with todo := planFlush (selD p (-1) p.dirty) }, p, ⟨false, 0, false, [], C6.none⟩)
  else if q.op = 7 then (m, (mDiscard p q.page).1, Re.dn (mDiscard p q.page).2) else (m, p, Re.dn 0)
def OpPost (r : Mc × Pt × Re) (b bp : Nat) (v : Value) (L' : List HL) : Prop := ∃ a n c H' Hp' Hd, v = r.2.2.v a n c ∧ L' = [H', Hp', Hd] ∧ MAt r.1 b bp H' ∧ PtAt r.2.1 bp Hp' ∧ RoSl 1 (u8s r.2.2.data) a n Hd ∧ r.2.2.data.length = n
def opV (b b1 : Nat) (k : Int) : Value :=
  if k = 1 then .func (.func 58) #[.pointer (some ⟨b, 0, none⟩)] #[] else if k = 2 then .func (.func 59) #[] #[.pointer (some ⟨b1, 0, none⟩)]
  else if k = 3 then .func (.func 62) #[] #[.pointer (some ⟨b1, 0, none⟩)] else if k = 4 then .func (.func 64) #[] #[.pointer (some ⟨b1, 0, none⟩)]
  else if k = 5 then .func (.func 66) #[] #[.pointer (some ⟨b1, 0, none⟩)] else if k = 6 then .func (.func 68) #[] #[.pointer (some ⟨b1, 0, none⟩)]
  else if k = 7 then .func (.func 69) #[.pointer (some ⟨b, 0, none⟩)] #[] else .func (.func 70) #[] #[]
def opsMap (b b1 : Nat) : List (Int × Value) := [(1, opV b b1 1), (2, opV b b1 2), (3, opV b b1 3), (4, opV b b1 4), (5, opV b b1 5), (6, opV b b1 6), (7, opV b b1 7), (8, opV b b1 8)]
theorem ops_get (b b1 : Nat) {k : Int} (h1 : 1 ≤ k) (h2 : k ≤ 8) : mget (opsMap b b1) k = some (opV b b1 k) := by
  obtain rfl | rfl | rfl | rfl | rfl | rfl | rfl | rfl : k = 1 ∨ k = 2 ∨ k = 3 ∨ k = 4 ∨ k = 5 ∨ k = 6 ∨ k = 7 ∨ k = 8 := by omega
  all_goals rfl
theorem empty_ro : RoSl 1 (u8s []) none 0 [] := ⟨rfl, .inl ⟨rfl, rfl⟩⟩
theorem Op_spec (m : Mc) (b bp : Nat) (H : HL) (hm : MAt m b bp H) (p : Pt) (hi : p.Inv) (Hp : HL) (hp : PtAt p bp Hp) (q : Rq) (h1 : 1 ≤ q.op) (h8 : q.op ≤ 8) (hq : q.page = m.page) (ho : i64s q.off) (aq : Option Addr) (cq : Nat) (rq : HL) (hrq : RoSl 1 (u8s q.data) aq q.data.length rq) (b1 : Nat) :
    CtrV Try.prog (opV b b1 q.op) [q.v aq cq] [Hp, H] ((b1, .cells #[.pointer (some ⟨b, 0, none⟩)] 37 (0, 0)) :: rq) (OpPost (mOp m p q) b bp) := by
  have hF := fetch_spec m b bp H hm p hi Hp hp q hq aq cq
  have hR := Read_spec m b bp H hm p hi Hp hp q ho aq cq b1
  have hW := Write_spec m b bp H hm p hi Hp hp q ho aq cq rq hrq b1
  have hU := UnpinC_spec m b bp H hm p hi Hp hp q aq cq b1
  have hFl := FlushC_spec m b bp H hm p hi Hp hp q aq cq b1
  have hFa := FlushAllC_spec m b bp H hm p hi Hp hp q aq cq b1
  have hD := Discard_spec m b bp H hm p hi Hp hp q aq cq
  have hS := StatsC_spec q aq cq
  have hop : q.op = 1 ∨ q.op = 2 ∨ q.op = 3 ∨ q.op = 4 ∨ q.op = 5 ∨ q.op = 6 ∨ q.op = 7 ∨ q.op = 8 := by omega
  have r1 : ∀ x ∈ ((b1, Obj.cells #[.pointer (some ⟨b, 0, none⟩)] 37 (0, 0)) :: H), x ∈ H ∨ x ∈ ((b1, Obj.cells #[.pointer (some ⟨b, 0, none⟩)] 37 (0, 0)) :: rq) := fun x hx => by
    rcases List.mem_cons.1 hx with rfl | hx
    · exact .inr (List.mem_cons_self)
    · exact .inl hx
  have r2 : ∀ x ∈ ((b1, Obj.cells #[.pointer (some ⟨b, 0, none⟩)] 37 (0, 0)) :: (H ++ rq)), x ∈ H ∨ x ∈ ((b1, Obj.cells #[.pointer (some ⟨b, 0, none⟩)] 37 (0, 0)) :: rq) := fun x hx => by
    rcases List.mem_cons.1 hx with rfl | hx
    · exact .inr (List.mem_cons_self)
    · rcases List.mem_append.1 hx with hx | hx
      · exact .inl hx
      · exact .inr (List.mem_cons_of_mem _ hx)
  have r3 : ∀ x ∈ ((b1, Obj.cells #[.pointer (some ⟨b, 0, none⟩)] 37 (0, 0)) :: Hp), x ∈ Hp ∨ x ∈ ((b1, Obj.cells #[.pointer (some ⟨b, 0, none⟩)] 37 (0, 0)) :: rq) := fun x hx => by
    rcases List.mem_cons.1 hx with rfl | hx
    · exact .inr (List.mem_cons_self)
    · exact .inl hx
  rcases hop with h | h | h | h | h | h | h | h
  · have e : mOp m p q = mFetch m p := by unfold mOp; rw [h]; rfl
    rw [e, h]
    refine Ctr.v (fst := [.pointer (some ⟨b, 0, none⟩)]) (cap := []) (((hF.sel (pre' := [Hp, H]) (X := []) (by repeat (first | exact Sel.nil | (apply Sel.cons; (repeat (first | exact Pick.here | apply Pick.there))))) (fun _ h => h)).ro (fun _ h => by cases h)).out ?_) rfl
    rintro _ _ ⟨_, rfl, H', Hp', rfl, rfl, h2, h3⟩
    have hd : (mFetch m p).2.2.data = [] := by
      unfold mFetch mMiss
      split
      · split <;> rfl
      · split <;> rfl
    exact ⟨[H', Hp'], [H', Hp', []], _, by repeat (first | exact Sel.nil | (apply Sel.cons; (repeat (first | exact Pick.here | apply Pick.there)))), by simp, none, 0, 0, _, _, _, rfl, rfl, h2, h3, by rw [hd]; exact empty_ro, by rw [hd]; rfl⟩
  · have e : mOp m p q = (m, mRead p q) := by unfold mOp; rw [h]; rfl
    rw [e, h]
    refine Ctr.v (fst := []) (cap := [.pointer (some ⟨b1, 0, none⟩)]) ((hR.own r1).out ?_) rfl
    rintro _ _ ⟨_, rfl, a, n, c, Hp', Hd, rfl, rfl, h2, h3, h4⟩
    exact ⟨[H, Hp', Hd], [H, Hp', Hd], _, by repeat (first | exact Sel.nil | (apply Sel.cons; (repeat (first | exact Pick.here | apply Pick.there)))), rfl, a, n, c, _, _, _, rfl, rfl, hm, h2, h3, h4⟩
  · have e : mOp m p q = (m, mWrite p q) := by unfold mOp; rw [h]; rfl
    rw [e, h]
    refine Ctr.v (fst := []) (cap := [.pointer (some ⟨b1, 0, none⟩)]) ((hW.own r2).out ?_) rfl
    rintro _ _ ⟨_, rfl, Hp', rfl, rfl, h2⟩
    have hd : (mWrite p q).2.data = [] := by unfold mWrite; simp only; split <;> rfl
    exact ⟨[H, Hp'], [H, Hp', []], _, by repeat (first | exact Sel.nil | (apply Sel.cons; (repeat (first | exact Pick.here | apply Pick.there)))), by simp, none, 0, 0, _, _, _, rfl, rfl, hm, h2, by rw [hd]; exact empty_ro, by rw [hd]; rfl⟩
  · have e : mOp m p q = (m, (p.doPage q.page Fr.unpin).1, Re.dn (p.doPage q.page Fr.unpin).2) := by unfold mOp; rw [h]; rfl
    rw [e, h]
    refine Ctr.v (fst := []) (cap := [.pointer (some ⟨b1, 0, none⟩)]) ((hU.own r1).out ?_) rfl
    rintro _ _ ⟨_, rfl, Hp', rfl, rfl, h2⟩
    exact ⟨[H, Hp'], [H, Hp', []], _, by repeat (first | exact Sel.nil | (apply Sel.cons; (repeat (first | exact Pick.here | apply Pick.there)))), by simp, none, 0, 0, _, _, _, rfl, rfl, hm, h2, empty_ro, rfl⟩
  · have e : mOp m p q = ({ m with todo := planFlush (selD p q.page p.dirty) }, p, ⟨false, 0, false, [], C6.none⟩) := by unfold mOp; rw [h]; rfl
    rw [e, h]
    refine Ctr.v (fst := []) (cap := [.pointer (some ⟨b1, 0, none⟩)]) (((hFl.own r3).sel (pre' := [Hp, H]) (X := []) (by repeat (first | exact Sel.nil | (apply Sel.cons; (repeat (first | exact Pick.here | apply Pick.there))))) (fun _ h => h)).out ?_) rfl
    rintro _ _ ⟨_, rfl, _, rfl, H', rfl, rfl, h2⟩
    exact ⟨[H', Hp], [H', Hp, []], _, by repeat (first | exact Sel.nil | (apply Sel.cons; (repeat (first | exact Pick.here | apply Pick.there)))), by simp, none, 0, 0, _, _, _, rfl, rfl, h2, hp, empty_ro, rfl⟩
  · have e : mOp m p q = ({ m with todo := planFlush (selD p (-1) p.dirty) }, p, ⟨false, 0, false, [], C6.none⟩) := by unfold mOp; rw [h]; rfl
    rw [e, h]
    refine Ctr.v (fst := []) (cap := [.pointer (some ⟨b1, 0, none⟩)]) (((hFa.own r3).sel (pre' := [Hp, H]) (X := []) (by repeat (first | exact Sel.nil | (apply Sel.cons; (repeat (first | exact Pick.here | apply Pick.there))))) (fun _ h => h)).out ?_) rfl
    rintro _ _ ⟨_, rfl, _, rfl, H', rfl, rfl, h2⟩
    exact ⟨[H', Hp], [H', Hp, []], _, by repeat (first | exact Sel.nil | (apply Sel.cons; (repeat (first | exact Pick.here | apply Pick.there)))), by simp, none, 0, 0, _, _, _, rfl, rfl, h2, hp, empty_ro, rfl⟩
  · have e : mOp m p q = (m, (mDiscard p q.page).1, Re.dn (mDiscard p q.page).2) := by unfold mOp; rw [h]; rfl
    rw [e, h]
    refine Ctr.v (fst := [.pointer (some ⟨b, 0, none⟩)]) (cap := []) ((hD.own (H := H) (fun _ h => .inl h)).out ?_) rfl
    rintro _ _ ⟨_, rfl, Hp', rfl, rfl, h2⟩
    exact ⟨[H, Hp'], [H, Hp', []], _, by repeat (first | exact Sel.nil | (apply Sel.cons; (repeat (first | exact Pick.here | apply Pick.there)))), by simp, none, 0, 0, _, _, _, rfl, rfl, hm, h2, empty_ro, rfl⟩
  · have e : mOp m p q = (m, p, Re.dn 0) := by unfold mOp; rw [h]; rfl
    rw [e, h]
    refine Ctr.v (fst := []) (cap := []) (((hS.frame [Hp, H]).ro (fun _ h => by cases h)).out ?_) rfl
    rintro _ _ ⟨_, rfl, rfl, rfl⟩
    exact ⟨[H, Hp], [H, Hp, []], _, by repeat (first | exact Sel.nil | (apply Sel.cons; (repeat (first | exact Pick.here | apply Pick.there)))), by simp, none, 0, 0, _, _, _, rfl, rfl, hm, hp, empty_ro, rfl⟩
theorem Ops_spec (b : Nat) : Ctr Try.prog 37 [.pointer (some ⟨b, 0, none⟩)] [] [] (fun v L' => ∃ bm b1 Hm, v = .map (some bm) ∧ L' = [Hm, [(b1, .cells #[.pointer (some ⟨b, 0, none⟩)] 37 (0, 0))]] ∧ IsMp .i64 id (opsMap b b1) bm Hm) := by
  refine Ctr.enter (n := 14) [.tmp 2] [(0, _)] Try.func37 rfl rfl rfl (lb rfl) Try.call37 ⟨rfl, trivial⟩ ?_
  intro cx fin fin0
  refine aG ?_
  refine aB ?_
  intro b1
  refine aG ?_
  refine aW NewOf.map ?_
  intro bm
  refine aG ?_
  have hm0 : IsMp .i64 id ([] : List (Int × Value)) bm [(bm, .map #[] 0)] := ⟨#[], 0, rfl, rfl⟩
  generalize hH : [(bm, Obj.map #[] 0)] = Hm0 at hm0
  repeat (first | refine gw ?_ | refine gN fun _ => ?_ | refine gB fun _ => ?_ | fail)
  refine aSkp (mapIns (f := id) (v := opV b b1 1) Try.underlying98 Try.underlying3 rfl rfl rfl (by intro p hp; simp [hp]) hm0) ?_
  rintro _ ⟨Hm1, rfl, hm1⟩
  refine aG ?_
  repeat (first | refine gw ?_ | refine gN fun _ => ?_ | refine gB fun _ => ?_ | fail)
  refine aSkp (mapIns (f := id) (v := opV b b1 2) Try.underlying98 Try.underlying3 rfl rfl rfl (by intro p hp; simp [hp]) hm1) ?_
  rintro _ ⟨Hm2, rfl, hm2⟩
  refine aG ?_
  repeat (first | refine gw ?_ | refine gN fun _ => ?_ | refine gB fun _ => ?_ | fail)
  refine aSkp (mapIns (f := id) (v := opV b b1 3) Try.underlying98 Try.underlying3 rfl rfl rfl (by intro p hp; simp [hp]) hm2) ?_
  rintro _ ⟨Hm3, rfl, hm3⟩
  refine aG ?_
  repeat (first | refine gw ?_ | refine gN fun _ => ?_ | refine gB fun _ => ?_ | fail)
  refine aSkp (mapIns (f := id) (v := opV b b1 4) Try.underlying98 Try.underlying3 rfl rfl rfl (by intro p hp; simp [hp]) hm3) ?_
  rintro _ ⟨Hm4, rfl, hm4⟩
  refine aG ?_
  repeat (first | refine gw ?_ | refine gN fun _ => ?_ | refine gB fun _ => ?_ | fail)
  refine aSkp (mapIns (f := id) (v := opV b b1 5) Try.underlying98 Try.underlying3 rfl rfl rfl (by intro p hp; simp [hp]) hm4) ?_
  rintro _ ⟨Hm5, rfl, hm5⟩
  refine aG ?_
  repeat (first | refine gw ?_ | refine gN fun _ => ?_ | refine gB fun _ => ?_ | fail)
  refine aSkp (mapIns (f := id) (v := opV b b1 6) Try.underlying98 Try.underlying3 rfl rfl rfl (by intro p hp; simp [hp]) hm5) ?_
  rintro _ ⟨Hm6, rfl, hm6⟩
  refine aG ?_
  repeat (first | refine gw ?_ | refine gN fun _ => ?_ | refine gB fun _ => ?_ | fail)
  refine aSkp (mapIns (f := id) (v := opV b b1 7) Try.underlying98 Try.underlying3 rfl rfl rfl (by intro p hp; simp [hp]) hm6) ?_
  rintro _ ⟨Hm7, rfl, hm7⟩
  refine aG ?_
  repeat (first | refine gw ?_ | refine gN fun _ => ?_ | refine gB fun _ => ?_ | fail)
  refine aSkp (mapIns (f := id) (v := opV b b1 8) Try.underlying98 Try.underlying3 rfl rfl rfl (by intro p hp; simp [hp]) hm7) ?_
  rintro _ ⟨Hm8, rfl, hm8⟩
  refine aG ?_
  repeat (first | refine gw ?_ | refine gN fun _ => ?_ | refine gB fun _ => ?_ | fail)
  refine W.ret (fin _ _ (FinOk.first 2 (.tmp rfl .nil) rfl ?_))
  exact ⟨bm, b1, _, rfl, rfl, hm8⟩
end Go.Proofs.Ytgipjpiiomgjjaa
