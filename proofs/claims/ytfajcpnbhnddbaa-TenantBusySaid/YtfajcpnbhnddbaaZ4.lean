/-
  The walks of this claim and the rules that they use, part four: each theorem is a contract of one function, or what such a proof asks.
-/
import Derived.Test.YtfajcpnbhnddbaaZ3
namespace Go.Proofs.Ytfajcpnbhnddbaa
open Go Go.Sl Go.IntWalk
set_option maxHeartbeats 8000000
set_option maxRecDepth 20000
def mRead (p : Pt) (q : Rq) : Pt × Re := ((p.get q.page q.off q.len).1, if (p.get q.page q.off q.len).2.2 = 0 then ⟨true, 0, false, (p.get q.page q.off q.len).2.1, ⟨0, 0, 0, 1, 0, 0⟩⟩ else Re.dn (p.get q.page q.off q.len).2.2)
def mWrite (p : Pt) (q : Rq) : Pt × Re := ((p.doPage q.page fun f => f.put q.off q.data).1, if (p.doPage q.page fun f => f.put q.off q.data).2 = 0 then ⟨true, 0, false, [], ⟨0, 0, 0, 0, 1, 0⟩⟩ else Re.dn (p.doPage q.page fun f => f.put q.off q.data).2)
theorem get_err {p : Pt} {page off n : Int} (h : (p.get page off n).2.2 ≠ 0) : (p.get page off n).2.1 = [] := by
  unfold Pt.get at *
  cases hg : mget p.tbl page with
  | none => rfl
  | some i =>
    rw [hg] at h
    simp only at h ⊢
    unfold Fr.get at *
    split
    · rfl
    · rename_i h1
      rw [if_neg h1] at h
      split
      · rfl
      · rename_i h2
        rw [if_neg h2] at h
        exact absurd rfl h
theorem Read_spec (m : Mc) (b bp : Nat) (H : HL) (hm : MAt m b bp H) (p : Pt) (hi : p.Inv) (Hp : HL) (hp : PtAt p bp Hp) (q : Rq) (ho : i64s q.off) (aq : Option Addr) (cq : Nat) (b1 : Nat) :
    Ctr Try.prog 64 [q.v aq cq, .pointer (some ⟨b1, 0, none⟩)] [Hp] ((b1, .cells #[.pointer (some ⟨b, 0, none⟩)] 57 (0, 0)) :: H) (fun v L' => ∃ a n c Hp' Hd, v = (mRead p q).2.v a n c ∧ L' = [Hp', Hd] ∧ PtAt (mRead p q).1 bp Hp' ∧ RoSl 1 (u8s (mRead p q).2.data) a n Hd ∧ (mRead p q).2.data.length = n) := by
  obtain ⟨t, g, ⟨at_, ct, rfl⟩, ⟨ag, cg, rfl⟩, hb⟩ := hm.head
  have hat : ∀ (y : Nat × Obj) L, At (y :: H) L b _ := fun y L => .inr (List.mem_cons_of_mem _ hb)
  have hG := PGet_spec p hi bp Hp hp q.page q.off q.len ho
  have hC := fun bs a n c => counted_spec (p.get q.page q.off q.len).2.2 bs a n c ⟨0, 0, 0, 1, 0, 0⟩
  have hge := fun h => get_err (p := p) (page := q.page) (off := q.off) (n := q.len) h
  have hmr : mRead p q = mRead p q := rfl
  conv at hmr => rhs; unfold mRead
  generalize mRead p q = out at *
  obtain ⟨qo, qp, qf, ql, qd⟩ := q
  simp only at *
  refine Ctr.enter (n := 24) [.cell 3 89] [(0, _), (1, _)] Try.func64 rfl rfl rfl (lb rfl) Try.call64 ⟨rfl, rfl, trivial⟩ ?_
  intro cx fin fin0
  refine aG ?_
  repeat (first | refine gw ?_ | refine gN fun _ => ?_ | refine gB fun _ => ?_ | fail)
  refine W.drawH tab_ok 16 [.b false, .b false, .b false, .b false, .b false, .b false, .b false, .b false, .b false, .b false, .b true, .b false, .b false, .b false, .b false, .b false] [2] follows (by decide +kernel) (by decide +kernel) rfl (by decide) rfl ?_
  intro _
  refine dG ?_
  repeat (first | refine dL ?_ | refine dS ?_ | (refine dN ?_; intro _; refine dG ?_) | (refine dB ?_; intro _; refine dG ?_) | fail)
  refine dV (OpVal.load tab_ok rfl (.inr (List.mem_append_right _ (List.mem_cons_of_mem _ hb))) rfl) ?_
  repeat (first | refine dL ?_ | refine dS ?_ | (refine dN ?_; intro _; refine dG ?_) | (refine dB ?_; intro _; refine dG ?_) | fail)
  refine dC (o := hG) (h := ?_)
  rintro _ _ ⟨a, n, c, Hp2, Hs, rfl, rfl, hp2, hrs, hrn⟩
  refine dG ?_
  refine WD.nil (W.dropNil (aG ?_))
  refine aBu (ps := [_]) ?_
  by_cases he : (p.get qp qf ql).2.2 = 0
  · rw [if_pos he] at hmr
    subst hmr
    have hC1 := hC (p.get qp qf ql).2.1 a n c
    rw [if_pos he] at hC1
    refine aC (o := hC1) (h := ?_)
    rintro _ _ ⟨rfl, rfl⟩
    refine aG ?_
    repeat (first | refine gw ?_ | refine gN fun _ => ?_ | refine gB fun _ => ?_ | fail)
    refine W.ret (fin _ _ (FinOk.first 2 (aRc .nil) rfl ?_))
    exact ⟨_, _, _, _, _, rfl, rfl, hp2, hrs, hrn⟩
  · rw [if_neg he] at hmr
    subst hmr
    have hC1 := hC (p.get qp qf ql).2.1 a n c
    rw [if_neg he] at hC1
    refine aC (o := hC1) (h := ?_)
    rintro _ _ ⟨rfl, rfl⟩
    refine aG ?_
    repeat (first | refine gw ?_ | refine gN fun _ => ?_ | refine gB fun _ => ?_ | fail)
    rw [hge he] at hrs hrn
    refine W.order [0, 1] rfl ?_
    refine W.nilChunk ?_
    refine W.order [1, 0, 0] rfl ?_
    refine W.ret (fin _ _ (FinOk.first 2 (aRc .nil) rfl ?_))
    exact ⟨_, _, _, _, _, rfl, rfl, hp2, ⟨rfl, .inl ⟨rfl, rfl⟩⟩, rfl⟩
theorem Write_spec (m : Mc) (b bp : Nat) (H : HL) (hm : MAt m b bp H) (p : Pt) (hi : p.Inv) (Hp : HL) (hp : PtAt p bp Hp) (q : Rq) (ho : i64s q.off) (aq : Option Addr) (cq : Nat) (rq : HL) (hrq : RoSl 1 (u8s q.data) aq q.data.length rq) (b1 : Nat) :
    Ctr Try.prog 67 [q.v aq cq, .pointer (some ⟨b1, 0, none⟩)] [Hp] ((b1, .cells #[.pointer (some ⟨b, 0, none⟩)] 57 (0, 0)) :: (H ++ rq)) (fun v L' => ∃ Hp', v = (mWrite p q).2.v none 0 0 ∧ L' = [Hp'] ∧ PtAt (mWrite p q).1 bp Hp') := by
  obtain ⟨t, g, ⟨at_, ct, rfl⟩, ⟨ag, cg, rfl⟩, hb⟩ := hm.head
  have hG := PPut_spec p hi bp Hp hp q.page q.off ho q.data aq cq rq hrq
  have hC := counted_spec (p.doPage q.page fun f => f.put q.off q.data).2 [] none 0 0 ⟨0, 0, 0, 0, 1, 0⟩
  have hmr : mWrite p q = mWrite p q := rfl
  conv at hmr => rhs; unfold mWrite
  generalize mWrite p q = out at *
  obtain ⟨qo, qp, qf, ql, qd⟩ := q
  simp only at *
  by_cases he : (p.doPage qp fun f => f.put qf qd).2 = 0
  case' pos => rw [if_pos he] at hmr hC
  case' neg => rw [if_neg he] at hmr hC
  all_goals
    subst hmr
    refine Ctr.enter (n := 17) [.cell 3 89] [(0, _), (1, _)] Try.func67 rfl rfl rfl (lb rfl) Try.call67 ⟨rfl, rfl, trivial⟩ ?_
    intro cx fin fin0
    refine aG ?_
    repeat (first | refine gw ?_ | refine gN fun _ => ?_ | refine gB fun _ => ?_ | fail)
    refine W.drawH tab_ok 14 [.b false, .b false, .b false, .b false, .b false, .b false, .b false, .b false, .b false, .b false, .b true, .b false, .b true, .b true] [0,2] follows (by decide +kernel) (by decide +kernel) rfl (by decide) rfl ?_
    intro _
    refine dG ?_
    repeat (first | refine dL ?_ | refine dS ?_ | (refine dN ?_; intro _; refine dG ?_) | (refine dB ?_; intro _; refine dG ?_) | fail)
    refine dV (OpVal.load tab_ok rfl (.inr (List.mem_append_right _ (List.mem_cons_of_mem _ (List.mem_append_left _ hb)))) rfl) ?_
    repeat (first | refine dL ?_ | refine dS ?_ | (refine dN ?_; intro _; refine dG ?_) | (refine dB ?_; intro _; refine dG ?_) | fail)
    refine dC (o := hG) (h := ?_) (hro := RoIn.all (fun q hq => List.mem_append_right _ (List.mem_cons_of_mem _ (List.mem_append_right _ hq))))
    rintro _ _ ⟨rfl, Hp2, rfl, hp2⟩
    refine dG ?_
    refine dV (OpVal.build (ps := [_]) tab_ok rfl rfl rfl rfl (by repeat (first | exact trivial | refine ⟨⟨_, _, _, rfl, rfl, rfl⟩, ?_⟩)) rfl) ?_
    refine dC (o := hC) (h := ?_)
    rintro _ _ ⟨rfl, rfl⟩
    refine dG ?_
    repeat (first | refine dL ?_ | refine dS ?_ | (refine dN ?_; intro _; refine dG ?_) | (refine dB ?_; intro _; refine dG ?_) | fail)
    refine WD.nil (W.dropNil (aG ?_))
    repeat (first | refine gw ?_ | refine gN fun _ => ?_ | refine gB fun _ => ?_ | fail)
    refine W.ret (fin _ _ (FinOk.first 1 (aRc .nil) rfl ?_))
    exact ⟨_, rfl, rfl, hp2⟩
theorem UnpinC_spec (m : Mc) (b bp : Nat) (H : HL) (hm : MAt m b bp H) (p : Pt) (hi : p.Inv) (Hp : HL) (hp : PtAt p bp Hp) (q : Rq) (aq : Option Addr) (cq : Nat) (b1 : Nat) :
    Ctr Try.prog 69 [q.v aq cq, .pointer (some ⟨b1, 0, none⟩)] [Hp] ((b1, .cells #[.pointer (some ⟨b, 0, none⟩)] 57 (0, 0)) :: H) (fun v L' => ∃ Hp', v = (Re.dn (p.doPage q.page Fr.unpin).2).v none 0 0 ∧ L' = [Hp'] ∧ PtAt (p.doPage q.page Fr.unpin).1 bp Hp') := by
  obtain ⟨t, g, ⟨at_, ct, rfl⟩, ⟨ag, cg, rfl⟩, hb⟩ := hm.head
  have hG := PUnpin_spec p hi bp Hp hp q.page
  have hC := done_spec (p.doPage q.page Fr.unpin).2
  obtain ⟨qo, qp, qf, ql, qd⟩ := q
  simp only at *
  refine Ctr.enter (n := 12) [.cell 3 89] [(0, _), (1, _)] Try.func69 rfl rfl rfl (lb rfl) Try.call69 ⟨rfl, rfl, trivial⟩ ?_
  intro cx fin fin0
  refine aG ?_
  repeat (first | refine gw ?_ | refine gN fun _ => ?_ | refine gB fun _ => ?_ | fail)
  refine W.drawH tab_ok 9 [.b false, .b false, .b false, .b false, .b false, .b false, .b true, .b true, .b true] [0,2] follows (by decide +kernel) (by decide +kernel) rfl (by decide) rfl ?_
  intro _
  refine dG ?_
  repeat (first | refine dL ?_ | refine dS ?_ | (refine dN ?_; intro _; refine dG ?_) | (refine dB ?_; intro _; refine dG ?_) | fail)
  refine dV (OpVal.load tab_ok rfl (.inr (List.mem_append_right _ (List.mem_cons_of_mem _ hb))) rfl) ?_
  repeat (first | refine dL ?_ | refine dS ?_ | (refine dN ?_; intro _; refine dG ?_) | (refine dB ?_; intro _; refine dG ?_) | fail)
  refine dC (o := hG) (h := ?_)
  rintro _ _ ⟨rfl, Hp2, rfl, hp2⟩
  refine dG ?_
  refine dC (o := hC) (h := ?_)
  rintro _ _ ⟨rfl, rfl⟩
  refine dG ?_
  repeat (first | refine dL ?_ | refine dS ?_ | (refine dN ?_; intro _; refine dG ?_) | (refine dB ?_; intro _; refine dG ?_) | fail)
  refine WD.nil (W.dropNil (aG ?_))
  repeat (first | refine gw ?_ | refine gN fun _ => ?_ | refine gB fun _ => ?_ | fail)
  refine W.ret (fin _ _ (FinOk.first 1 (aRc .nil) rfl ?_))
  exact ⟨_, rfl, rfl, hp2⟩
theorem FlushC_spec (m : Mc) (b bp : Nat) (H : HL) (hm : MAt m b bp H) (p : Pt) (hi : p.Inv) (Hp : HL) (hp : PtAt p bp Hp) (q : Rq) (aq : Option Addr) (cq : Nat) (b1 : Nat) :
    Ctr Try.prog 71 [q.v aq cq, .pointer (some ⟨b1, 0, none⟩)] [H] ((b1, .cells #[.pointer (some ⟨b, 0, none⟩)] 57 (0, 0)) :: Hp) (fun v L' => ∃ H', v = (⟨false, 0, false, [], C6.none⟩ : Re).v none 0 0 ∧ L' = [H'] ∧ MAt { m with todo := planFlush (selD p q.page p.dirty) } b bp H') := by
  have hF := MFlush_spec m b bp H hm p hi Hp hp q.page
  obtain ⟨qo, qp, qf, ql, qd⟩ := q
  simp only at *
  refine Ctr.enter (n := 8) [.cell 3 89] [(0, _), (1, _)] Try.func71 rfl rfl rfl (lb rfl) Try.call71 ⟨rfl, rfl, trivial⟩ ?_
  intro cx fin fin0
  refine aG ?_
  repeat (first | refine gw ?_ | refine gN fun _ => ?_ | refine gB fun _ => ?_ | fail)
  refine aC (o := hF) (h := ?_) (hro := RoIn.all (fun q hq => List.mem_cons_of_mem _ hq))
  rintro _ _ ⟨H2, rfl, rfl, hm2⟩
  refine aG ?_
  repeat (first | refine gw ?_ | refine gN fun _ => ?_ | refine gB fun _ => ?_ | fail)
  refine W.ret (fin _ _ (FinOk.first 1 (aRc .nil) rfl ?_))
  exact ⟨_, rfl, rfl, hm2⟩
theorem FlushAllC_spec (m : Mc) (b bp : Nat) (H : HL) (hm : MAt m b bp H) (p : Pt) (hi : p.Inv) (Hp : HL) (hp : PtAt p bp Hp) (q : Rq) (aq : Option Addr) (cq : Nat) (b1 : Nat) :
    Ctr Try.prog 73 [q.v aq cq, .pointer (some ⟨b1, 0, none⟩)] [H] ((b1, .cells #[.pointer (some ⟨b, 0, none⟩)] 57 (0, 0)) :: Hp) (fun v L' => ∃ H', v = (⟨false, 0, false, [], C6.none⟩ : Re).v none 0 0 ∧ L' = [H'] ∧ MAt { m with todo := planFlush (selD p (-1) p.dirty) } b bp H') := by
  have hF := MFlush_spec m b bp H hm p hi Hp hp (-1)
  obtain ⟨qo, qp, qf, ql, qd⟩ := q
  refine Ctr.enter (n := 6) [.cell 3 89] [(0, _), (1, _)] Try.func73 rfl rfl rfl (lb rfl) Try.call73 ⟨rfl, rfl, trivial⟩ ?_
  intro cx fin fin0
  refine aG ?_
  repeat (first | refine gw ?_ | refine gN fun _ => ?_ | refine gB fun _ => ?_ | fail)
  refine aC (o := hF) (h := ?_) (hro := RoIn.all (fun q hq => List.mem_cons_of_mem _ hq))
  rintro _ _ ⟨H2, rfl, rfl, hm2⟩
  refine aG ?_
  repeat (first | refine gw ?_ | refine gN fun _ => ?_ | refine gB fun _ => ?_ | fail)
  refine W.ret (fin _ _ (FinOk.first 1 (aRc .nil) rfl ?_))
  exact ⟨_, rfl, rfl, hm2⟩
theorem StatsC_spec (q : Rq) (aq : Option Addr) (cq : Nat) : Ctr Try.prog 75 [q.v aq cq] [] [] (fun v L' => v = (Re.dn 0).v none 0 0 ∧ L' = []) := by
  obtain ⟨qo, qp, qf, ql, qd⟩ := q
  refine Ctr.enter (n := 4) [.cell 2 89] [(0, _)] Try.func75 rfl rfl rfl (lb rfl) Try.call75 ⟨rfl, trivial⟩ ?_
  intro cx fin fin0
  refine aG ?_
  repeat (first | refine gw ?_ | refine gN fun _ => ?_ | refine gB fun _ => ?_ | fail)
  refine aC (o := done_spec 0) (h := ?_)
  rintro _ _ ⟨rfl, rfl⟩
  refine aG ?_
  repeat (first | refine gw ?_ | refine gN fun _ => ?_ | refine gB fun _ => ?_ | fail)
  refine W.ret (fin _ _ (FinOk.mk' ([]) (aRc .nil) (by repeat (first | exact Sel.nil | (apply Sel.cons; (repeat (first | exact Pick.here | apply Pick.there))))) rfl ?_))
  exact ⟨rfl, rfl⟩
def mOp (m : Mc) (p : Pt) (q : Rq) : Mc × Pt × Re :=
  if q.op = 1 then mFetch m p else if q.op = 2 then (m, mRead p q) else if q.op = 3 then (m, mWrite p q) else if q.op = 4 then (m, (p.doPage q.page Fr.unpin).1, Re.dn (p.doPage q.page Fr.unpin).2)
  else if q.op = 5 then ({ m with todo := planFlush (selD p q.page p.dirty) }, p, ⟨false, 0, false, [], C6.none⟩) else if q.op = 6 then ({ m with todo := planFlush (selD p (-1) p.dirty) }, p, ⟨false, 0, false, [], C6.none⟩)
  else if q.op = 7 then (m, (mDiscard p q.page).1, Re.dn (mDiscard p q.page).2) else (m, p, Re.dn 0)
def OpPost (r : Mc × Pt × Re) (b bp : Nat) (v : Value) (L' : List HL) : Prop := ∃ a n c H' Hp' Hd, v = r.2.2.v a n c ∧ L' = [H', Hp', Hd] ∧ MAt r.1 b bp H' ∧ PtAt r.2.1 bp Hp' ∧ RoSl 1 (u8s r.2.2.data) a n Hd ∧ r.2.2.data.length = n
def opV (b b1 : Nat) (k : Int) : Value :=
  if k = 1 then .func (.func 63) #[.pointer (some ⟨b, 0, none⟩)] #[] else if k = 2 then .func (.func 64) #[] #[.pointer (some ⟨b1, 0, none⟩)]
  else if k = 3 then .func (.func 67) #[] #[.pointer (some ⟨b1, 0, none⟩)] else if k = 4 then .func (.func 69) #[] #[.pointer (some ⟨b1, 0, none⟩)]
  else if k = 5 then .func (.func 71) #[] #[.pointer (some ⟨b1, 0, none⟩)] else if k = 6 then .func (.func 73) #[] #[.pointer (some ⟨b1, 0, none⟩)]
  else if k = 7 then .func (.func 74) #[.pointer (some ⟨b, 0, none⟩)] #[] else .func (.func 75) #[] #[]
def opsMap (b b1 : Nat) : List (Int × Value) := [(1, opV b b1 1), (2, opV b b1 2), (3, opV b b1 3), (4, opV b b1 4), (5, opV b b1 5), (6, opV b b1 6), (7, opV b b1 7), (8, opV b b1 8)]
theorem ops_get (b b1 : Nat) {k : Int} (h1 : 1 ≤ k) (h2 : k ≤ 8) : mget (opsMap b b1) k = some (opV b b1 k) := by
  obtain rfl | rfl | rfl | rfl | rfl | rfl | rfl | rfl : k = 1 ∨ k = 2 ∨ k = 3 ∨ k = 4 ∨ k = 5 ∨ k = 6 ∨ k = 7 ∨ k = 8 := by omega
  all_goals rfl
theorem empty_ro : RoSl 1 (u8s []) none 0 [] := ⟨rfl, .inl ⟨rfl, rfl⟩⟩
theorem Op_spec (m : Mc) (b bp : Nat) (H : HL) (hm : MAt m b bp H) (p : Pt) (hi : p.Inv) (Hp : HL) (hp : PtAt p bp Hp) (q : Rq) (h1 : 1 ≤ q.op) (h8 : q.op ≤ 8) (hq : q.page = m.page) (ho : i64s q.off) (aq : Option Addr) (cq : Nat) (rq : HL) (hrq : RoSl 1 (u8s q.data) aq q.data.length rq) (b1 : Nat) :
    CtrV Try.prog (opV b b1 q.op) [q.v aq cq] [Hp, H] ((b1, .cells #[.pointer (some ⟨b, 0, none⟩)] 57 (0, 0)) :: rq) (OpPost (mOp m p q) b bp) := by
  have hF := fetch_spec m b bp H hm p hi Hp hp q hq aq cq
  have hR := Read_spec m b bp H hm p hi Hp hp q ho aq cq b1
  have hW := Write_spec m b bp H hm p hi Hp hp q ho aq cq rq hrq b1
  have hU := UnpinC_spec m b bp H hm p hi Hp hp q aq cq b1
  have hFl := FlushC_spec m b bp H hm p hi Hp hp q aq cq b1
  have hFa := FlushAllC_spec m b bp H hm p hi Hp hp q aq cq b1
  have hD := Discard_spec m b bp H hm p hi Hp hp q aq cq
  have hS := StatsC_spec q aq cq
  have hop : q.op = 1 ∨ q.op = 2 ∨ q.op = 3 ∨ q.op = 4 ∨ q.op = 5 ∨ q.op = 6 ∨ q.op = 7 ∨ q.op = 8 := by omega
  have r1 : ∀ x ∈ ((b1, Obj.cells #[.pointer (some ⟨b, 0, none⟩)] 57 (0, 0)) :: H), x ∈ H ∨ x ∈ ((b1, Obj.cells #[.pointer (some ⟨b, 0, none⟩)] 57 (0, 0)) :: rq) := fun x hx => by
    rcases List.mem_cons.1 hx with rfl | hx
    · exact .inr (List.mem_cons_self)
    · exact .inl hx
  have r2 : ∀ x ∈ ((b1, Obj.cells #[.pointer (some ⟨b, 0, none⟩)] 57 (0, 0)) :: (H ++ rq)), x ∈ H ∨ x ∈ ((b1, Obj.cells #[.pointer (some ⟨b, 0, none⟩)] 57 (0, 0)) :: rq) := fun x hx => by
    rcases List.mem_cons.1 hx with rfl | hx
    · exact .inr (List.mem_cons_self)
    · rcases List.mem_append.1 hx with hx | hx
      · exact .inl hx
      · exact .inr (List.mem_cons_of_mem _ hx)
  have r3 : ∀ x ∈ ((b1, Obj.cells #[.pointer (some ⟨b, 0, none⟩)] 57 (0, 0)) :: Hp), x ∈ Hp ∨ x ∈ ((b1, Obj.cells #[.pointer (some ⟨b, 0, none⟩)] 57 (0, 0)) :: rq) := fun x hx => by
    rcases List.mem_cons.1 hx with rfl | hx
    · exact .inr (List.mem_cons_self)
    · exact .inl hx
  rcases hop with h | h | h | h | h | h | h | h
  · have e : mOp m p q = mFetch m p := by unfold mOp; rw [h]; rfl
    rw [e, h]
    refine Ctr.v (fst := [.pointer (some ⟨b, 0, none⟩)]) (cap := []) (((hF.sel (pre' := [Hp, H]) (X := []) (by repeat (first | exact Sel.nil | (apply Sel.cons; (repeat (first | exact Pick.here | apply Pick.there))))) (fun _ h => h)).ro (fun _ h => by cases h)).out ?_) rfl
    rintro _ _ ⟨_, rfl, H', Hp', rfl, rfl, h2, h3⟩
    have hd : (mFetch m p).2.2.data = [] := by
      unfold mFetch mMiss
      split
      · split <;> rfl
      · split <;> rfl
    exact ⟨[H', Hp'], [H', Hp', []], _, by repeat (first | exact Sel.nil | (apply Sel.cons; (repeat (first | exact Pick.here | apply Pick.there)))), by simp, none, 0, 0, _, _, _, rfl, rfl, h2, h3, by rw [hd]; exact empty_ro, by rw [hd]; rfl⟩
  · have e : mOp m p q = (m, mRead p q) := by unfold mOp; rw [h]; rfl
    rw [e, h]
    refine Ctr.v (fst := []) (cap := [.pointer (some ⟨b1, 0, none⟩)]) ((hR.own r1).out ?_) rfl
    rintro _ _ ⟨_, rfl, a, n, c, Hp', Hd, rfl, rfl, h2, h3, h4⟩
    exact ⟨[H, Hp', Hd], [H, Hp', Hd], _, by repeat (first | exact Sel.nil | (apply Sel.cons; (repeat (first | exact Pick.here | apply Pick.there)))), rfl, a, n, c, _, _, _, rfl, rfl, hm, h2, h3, h4⟩
  · have e : mOp m p q = (m, mWrite p q) := by unfold mOp; rw [h]; rfl
    rw [e, h]
    refine Ctr.v (fst := []) (cap := [.pointer (some ⟨b1, 0, none⟩)]) ((hW.own r2).out ?_) rfl
    rintro _ _ ⟨_, rfl, Hp', rfl, rfl, h2⟩
    have hd : (mWrite p q).2.data = [] := by unfold mWrite; simp only; split <;> rfl
    exact ⟨[H, Hp'], [H, Hp', []], _, by repeat (first | exact Sel.nil | (apply Sel.cons; (repeat (first | exact Pick.here | apply Pick.there)))), by simp, none, 0, 0, _, _, _, rfl, rfl, hm, h2, by rw [hd]; exact empty_ro, by rw [hd]; rfl⟩
  · have e : mOp m p q = (m, (p.doPage q.page Fr.unpin).1, Re.dn (p.doPage q.page Fr.unpin).2) := by unfold mOp; rw [h]; rfl
    rw [e, h]
    refine Ctr.v (fst := []) (cap := [.pointer (some ⟨b1, 0, none⟩)]) ((hU.own r1).out ?_) rfl
    rintro _ _ ⟨_, rfl, Hp', rfl, rfl, h2⟩
    exact ⟨[H, Hp'], [H, Hp', []], _, by repeat (first | exact Sel.nil | (apply Sel.cons; (repeat (first | exact Pick.here | apply Pick.there)))), by simp, none, 0, 0, _, _, _, rfl, rfl, hm, h2, empty_ro, rfl⟩
  · have e : mOp m p q = ({ m with todo := planFlush (selD p q.page p.dirty) }, p, ⟨false, 0, false, [], C6.none⟩) := by unfold mOp; rw [h]; rfl
    rw [e, h]
    refine Ctr.v (fst := []) (cap := [.pointer (some ⟨b1, 0, none⟩)]) (((hFl.own r3).sel (pre' := [Hp, H]) (X := []) (by repeat (first | exact Sel.nil | (apply Sel.cons; (repeat (first | exact Pick.here | apply Pick.there))))) (fun _ h => h)).out ?_) rfl
    rintro _ _ ⟨_, rfl, _, rfl, H', rfl, rfl, h2⟩
    exact ⟨[H', Hp], [H', Hp, []], _, by repeat (first | exact Sel.nil | (apply Sel.cons; (repeat (first | exact Pick.here | apply Pick.there)))), by simp, none, 0, 0, _, _, _, rfl, rfl, h2, hp, empty_ro, rfl⟩
  · have e : mOp m p q = ({ m with todo := planFlush (selD p (-1) p.dirty) }, p, ⟨false, 0, false, [], C6.none⟩) := by unfold mOp; rw [h]; rfl
    rw [e, h]
    refine Ctr.v (fst := []) (cap := [.pointer (some ⟨b1, 0, none⟩)]) (((hFa.own r3).sel (pre' := [Hp, H]) (X := []) (by repeat (first | exact Sel.nil | (apply Sel.cons; (repeat (first | exact Pick.here | apply Pick.there))))) (fun _ h => h)).out ?_) rfl
    rintro _ _ ⟨_, rfl, _, rfl, H', rfl, rfl, h2⟩
    exact ⟨[H', Hp], [H', Hp, []], _, by repeat (first | exact Sel.nil | (apply Sel.cons; (repeat (first | exact Pick.here | apply Pick.there)))), by simp, none, 0, 0, _, _, _, rfl, rfl, h2, hp, empty_ro, rfl⟩
  · have e : mOp m p q = (m, (mDiscard p q.page).1, Re.dn (mDiscard p q.page).2) := by unfold mOp; rw [h]; rfl
    rw [e, h]
    refine Ctr.v (fst := [.pointer (some ⟨b, 0, none⟩)]) (cap := []) ((hD.own (H := H) (fun _ h => .inl h)).out ?_) rfl
    rintro _ _ ⟨_, rfl, Hp', rfl, rfl, h2⟩
    exact ⟨[H, Hp'], [H, Hp', []], _, by repeat (first | exact Sel.nil | (apply Sel.cons; (repeat (first | exact Pick.here | apply Pick.there)))), by simp, none, 0, 0, _, _, _, rfl, rfl, hm, h2, empty_ro, rfl⟩
  · have e : mOp m p q = (m, p, Re.dn 0) := by unfold mOp; rw [h]; rfl
    rw [e, h]
    refine Ctr.v (fst := []) (cap := []) (((hS.frame [Hp, H]).ro (fun _ h => by cases h)).out ?_) rfl
    rintro _ _ ⟨_, rfl, rfl, rfl⟩
    exact ⟨[H, Hp], [H, Hp, []], _, by repeat (first | exact Sel.nil | (apply Sel.cons; (repeat (first | exact Pick.here | apply Pick.there)))), by simp, none, 0, 0, _, _, _, rfl, rfl, hm, hp, empty_ro, rfl⟩
theorem Ops_spec (b : Nat) : Ctr Try.prog 52 [.pointer (some ⟨b, 0, none⟩)] [] [] (fun v L' => ∃ bm b1 Hm, v = .map (some bm) ∧ L' = [Hm, [(b1, .cells #[.pointer (some ⟨b, 0, none⟩)] 57 (0, 0))]] ∧ IsMp .i64 id (opsMap b b1) bm Hm) := by
  refine Ctr.enter (n := 14) [.tmp 2] [(0, _)] Try.func52 rfl rfl rfl (lb rfl) Try.call52 ⟨rfl, trivial⟩ ?_
  intro cx fin fin0
  refine aG ?_
  refine aB ?_
  intro b1
  refine aG ?_
  refine aW NewOf.map ?_
  intro bm
  refine aG ?_
  have hm0 : IsMp .i64 id ([] : List (Int × Value)) bm [(bm, .map #[] 0)] := ⟨#[], 0, rfl, rfl⟩
  generalize hH : [(bm, Obj.map #[] 0)] = Hm0 at hm0
  repeat (first | refine gw ?_ | refine gN fun _ => ?_ | refine gB fun _ => ?_ | fail)
  refine aSkp (mapIns (f := id) (v := opV b b1 1) Try.underlying116 Try.underlying3 rfl rfl rfl (by intro p hp; simp [hp]) hm0) ?_
  rintro _ ⟨Hm1, rfl, hm1⟩
  refine aG ?_
  repeat (first | refine gw ?_ | refine gN fun _ => ?_ | refine gB fun _ => ?_ | fail)
  refine aSkp (mapIns (f := id) (v := opV b b1 2) Try.underlying116 Try.underlying3 rfl rfl rfl (by intro p hp; simp [hp]) hm1) ?_
  rintro _ ⟨Hm2, rfl, hm2⟩
  refine aG ?_
  repeat (first | refine gw ?_ | refine gN fun _ => ?_ | refine gB fun _ => ?_ | fail)
  refine aSkp (mapIns (f := id) (v := opV b b1 3) Try.underlying116 Try.underlying3 rfl rfl rfl (by intro p hp; simp [hp]) hm2) ?_
  rintro _ ⟨Hm3, rfl, hm3⟩
  refine aG ?_
  repeat (first | refine gw ?_ | refine gN fun _ => ?_ | refine gB fun _ => ?_ | fail)
  refine aSkp (mapIns (f := id) (v := opV b b1 4) Try.underlying116 Try.underlying3 rfl rfl rfl (by intro p hp; simp [hp]) hm3) ?_
  rintro _ ⟨Hm4, rfl, hm4⟩
  refine aG ?_
  repeat (first | refine gw ?_ | refine gN fun _ => ?_ | refine gB fun _ => ?_ | fail)
  refine aSkp (mapIns (f := id) (v := opV b b1 5) Try.underlying116 Try.underlying3 rfl rfl rfl (by intro p hp; simp [hp]) hm4) ?_
  rintro _ ⟨Hm5, rfl, hm5⟩
  refine aG ?_
  repeat (first | refine gw ?_ | refine gN fun _ => ?_ | refine gB fun _ => ?_ | fail)
  refine aSkp (mapIns (f := id) (v := opV b b1 6) Try.underlying116 Try.underlying3 rfl rfl rfl (by intro p hp; simp [hp]) hm5) ?_
  rintro _ ⟨Hm6, rfl, hm6⟩
  refine aG ?_
  repeat (first | refine gw ?_ | refine gN fun _ => ?_ | refine gB fun _ => ?_ | fail)
  refine aSkp (mapIns (f := id) (v := opV b b1 7) Try.underlying116 Try.underlying3 rfl rfl rfl (by intro p hp; simp [hp]) hm6) ?_
  rintro _ ⟨Hm7, rfl, hm7⟩
  refine aG ?_
  repeat (first | refine gw ?_ | refine gN fun _ => ?_ | refine gB fun _ => ?_ | fail)
  refine aSkp (mapIns (f := id) (v := opV b b1 8) Try.underlying116 Try.underlying3 rfl rfl rfl (by intro p hp; simp [hp]) hm7) ?_
  rintro _ ⟨Hm8, rfl, hm8⟩
  refine aG ?_
  repeat (first | refine gw ?_ | refine gN fun _ => ?_ | refine gB fun _ => ?_ | fail)
  refine W.ret (fin _ _ (FinOk.first 2 (.tmp rfl .nil) rfl ?_))
  exact ⟨bm, b1, _, rfl, rfl, hm8⟩
end Go.Proofs.Ytfajcpnbhnddbaa
namespace Go.Proofs.Ytfajcpnbhnddbaa
open Go Go.Sl Go.IntWalk
set_option maxHeartbeats 8000000
set_option maxRecDepth 20000
def mBegin (m : Mc) (p : Pt) (q : Rq) : Mc × Pt × Re := mOp { m with op := q.op, page := q.page } p q
theorem Begin_spec (m : Mc) (b bp : Nat) (H : HL) (hm : MAt m b bp H) (p : Pt) (hi : p.Inv) (Hp : HL) (hp : PtAt p bp Hp) (q : Rq) (h1 : 1 ≤ q.op) (h8 : q.op ≤ 8) (ho : i64s q.off) (aq : Option Addr) (cq : Nat) (rq : HL) (hrq : RoSl 1 (u8s q.data) aq q.data.length rq) :
    Ctr Try.prog 37 [.pointer (some ⟨b, 0, none⟩), q.v aq cq] [H, Hp] rq (OpPost (mBegin m p q) b bp) := by
  obtain ⟨a, ct, ag, cg, Ht, Hg, rfl, hro, hct, hown⟩ := hm
  have hops := Ops_spec b
  have hCV := fun b1 H1 hm1 => Op_spec { m with op := q.op, page := q.page } b bp H1 hm1 p hi Hp hp q h1 h8 rfl ho aq cq rq hrq b1
  have hget := fun b1 => ops_get b b1 h1 h8
  have hb : mBegin m p q = mOp { m with op := q.op, page := q.page } p q := rfl
  rw [hb]
  generalize mOp { m with op := q.op, page := q.page } p q = out at *
  obtain ⟨qo, qp, qf, ql, qd⟩ := q
  simp only at *
  refine Ctr.enter (n := 22) [.cell 4 89] [(0, _), (1, _)] Try.func37 rfl rfl rfl (lb rfl) Try.call37 ⟨rfl, rfl, trivial⟩ ?_
  intro cx fin fin0
  refine aG ?_
  repeat (first | refine gw ?_ | refine gN fun _ => ?_ | refine gB fun _ => ?_ | fail)
  refine W.order [2, 0, 0, 0] rfl ?_
  refine W.split3 rfl ?_
  refine aG ?_
  refine W.drawH tab_ok 12 [.b false, .b false, .b false, .b false, .b false, .b false, .b false, .b false, .b true, .b false, .b false, .b true] [0] follows (by decide +kernel) (by decide +kernel) rfl (by decide) rfl ?_
  intro _
  refine dG ?_
  repeat (first | refine dL ?_ | refine dS ?_ | (refine dN ?_; intro _; refine dG ?_) | (refine dB ?_; intro _; refine dG ?_) | fail)
  refine WD.nil (W.dropNil (aG ?_))
  refine W.groupV [0, 0, 0] rfl ?_
  have hm1 : MAt ⟨qo, qp, m.to, m.todo, m.got⟩ b bp _ := ⟨a, ct, ag, cg, Ht, Hg, rfl, hro, hct, hown⟩
  have hCV1 := fun b1 => hCV b1 _ hm1
  refine aG ?_
  refine W.drawH tab_ok 8 [.b false, .b true, .b false, .b false, .b true, .b false, .b true, .b true] [0,1,3] follows (by decide +kernel) (by decide +kernel) rfl (by decide) rfl ?_
  intro _
  refine dG ?_
  refine dC (o := hops) (h := ?_)
  rintro _ _ ⟨bm, b1, Hm, rfl, rfl, es, clock, rfl, hmap⟩
  refine dG ?_
  repeat (first | refine dL ?_ | refine dS ?_ | (refine dN ?_; intro _; refine dG ?_) | (refine dB ?_; intro _; refine dG ?_) | fail)
  refine dVA (OpVal.lookup1 Try.underlying116 Try.underlying3 rfl rfl (at_own 0 rfl) hmap (hget b1)) ?_
  repeat (first | refine dL ?_ | refine dS ?_ | (refine dN ?_; intro _; refine dG ?_) | (refine dB ?_; intro _; refine dG ?_) | fail)
  refine WD.callV rfl rfl rfl (hCV1 b1) (by repeat (first | exact Sel.nil | (apply Sel.cons; (repeat (first | exact Pick.here | apply Pick.there))))) (RoIn.cons (at_own 1 rfl) (RoIn.all fun q hq => List.mem_append_right _ hq)) (lb rfl) ?_
  rintro _ _ ⟨an, nn, cn, H', Hp', Hd, rfl, rfl, g1, g2, g3, g4⟩
  refine dG ?_
  repeat (first | refine dL ?_ | refine dS ?_ | (refine dN ?_; intro _; refine dG ?_) | (refine dB ?_; intro _; refine dG ?_) | fail)
  refine WD.nil (W.dropNil (aG ?_))
  repeat (first | refine gw ?_ | refine gN fun _ => ?_ | refine gB fun _ => ?_ | fail)
  refine W.ret (fin _ _ (FinOk.first 3 (aRc .nil) rfl ?_))
  exact ⟨_, _, _, _, _, _, rfl, rfl, g1, g2, g3, g4⟩
def mStep (m : Mc) (p : Pt) (bs : List Int) : Mc × Pt × C6 :=
  if m.io.1 = 2 ∧ m.io.2.2 = 1 then ({ m with todo := m.todo.tail }, mStored m p m.io.2.1) else if m.io.1 = 1 then ({ m with todo := m.todo.tail, got := m.got ++ bs }, p, C6.none) else ({ m with todo := m.todo.tail }, p, C6.none)
def mEnd (m : Mc) (p : Pt) (e : Int) (bs : List Int) : Mc × Pt × Re :=
  if e ≠ 0 then (Mc.idle, p, ⟨true, 9, false, [], ⟨0, 0, 0, 0, 0, 1⟩⟩)
  else if 0 < (mStep m p bs).1.todo.length then ((mStep m p bs).1, (mStep m p bs).2.1, ⟨false, 0, false, [], (mStep m p bs).2.2⟩)
  else (Mc.idle, if m.op = 1 then (((mStep m p bs).2.1.load m.to m.page (mStep m p bs).1.got).1.doPage m.page Fr.pin).1 else (mStep m p bs).2.1, ⟨true, 0, false, [], (mStep m p bs).2.2⟩)
theorem End_spec (m : Mc) (hne : m.todo ≠ []) (b bp : Nat) (H : HL) (hm : MAt m b bp H) (p : Pt) (hi : p.Inv) (Hp : HL) (hp : PtAt p bp Hp) (e : Int) (bs : List Int) (ab : Option Addr) (cb : Nat) (rb : HL) (hrb : RoSl 1 (u8s bs) ab bs.length rb)
    (hok : e = 0 → m.got.length + bs.length ≤ 100000 ∧ (mStep m p bs).2.1.Inv ∧ ((mStep m p bs).2.1.load m.to m.page (mStep m p bs).1.got).1.Inv) :
    Ctr Try.prog 28 [.pointer (some ⟨b, 0, none⟩), .int .i64 e, .slice ab bs.length cb] [H, Hp] rb (fun v L' => ∃ H' Hp', v = (mEnd m p e bs).2.2.v none 0 0 ∧ L' = [H', Hp'] ∧ MAt (mEnd m p e bs).1 b bp H' ∧ PtAt (mEnd m p e bs).2.1 bp Hp') := by
  have hStop := Stop_spec m b bp H hm
  have hdone := done_spec 9
  obtain ⟨a, ct, ag, cg, Ht, Hg, rfl, hro, hct, hown⟩ := hm
  have hout : mEnd m p e bs = mEnd m p e bs := rfl
  conv at hout => rhs; unfold mEnd
  generalize mEnd m p e bs = out at *
  by_cases he : e = 0
  · obtain ⟨hlen, hsi, hli⟩ := hok he
    rw [if_neg (by simpa using he)] at hout
    obtain ⟨mo, mpg, mto, todo, mgot⟩ := m
    cases todo with
    | nil => exact absurd rfl hne
    | cons x rest =>
      obtain ⟨xk, xp, xq⟩ := x
      have h0 : 0 < ((xk, xp, xq) :: rest).length := by simp
      have hl1 : 1 ≤ ((xk, xp, xq) :: rest).length := by simp
      obtain ⟨bx, ox, lx, ex, frx, hbx, hHt, hs, -⟩ := RoSl.at (f := io3) (m := 3) (fun _ => rfl) hro h0
      have hro2 : RoSl 3 (ios rest) (a.map fun ad => if ct = 1 then ad else ad.add (1 * 3)) rest.length Ht := by
        rcases RoSl.drop (f := io3) (cap := ct) (fun _ => rfl) hro 1 hl1 with h | h
        · exact h
        · omega
      have hct2 : rest.length ≤ ct - 1 := by simp at hct; omega
      subst hbx hHt
      refine Ctr.enter (n := 97) [.cell 6 89] [(0, _), (1, _), (2, _)] Try.func28 rfl rfl rfl (lb rfl) Try.call28 ⟨rfl, rfl, rfl, trivial⟩ ?_
      intro cx fin fin0
      refine aG ?_
      repeat (first | refine gw ?_ | refine gN fun _ => ?_ | refine gB fun _ => ?_ | fail)
      refine aF ?_ (hb := by exact gd he)
      refine W.order [1, 1, 0] rfl ?_
      refine W.split3 rfl ?_
      refine aG ?_
      repeat (first | refine gw ?_ | refine gN fun _ => ?_ | refine gB fun _ => ?_ | fail)
      refine aV (OpVal.ixSl tab_ok rfl rfl rfl rfl rfl h0) ?_
      refine aV (OpVal.loadN ty_106.1 ty_106.2 rfl (at_own 1 rfl) hs) ?_
      repeat (first | refine gw ?_ | refine gN fun _ => ?_ | refine gB fun _ => ?_ | fail)
      refine aV (OpVal.back tab_ok rfl rfl rfl rfl rfl hl1 hct) ?_
      repeat (first | refine gw ?_ | refine gN fun _ => ?_ | refine gB fun _ => ?_ | fail)
      have hms : mStep ⟨mo, mpg, mto, (xk, xp, xq) :: rest, mgot⟩ p bs = if xk = 2 ∧ xq = 1 then (⟨mo, mpg, mto, rest, mgot⟩, mStored ⟨mo, mpg, mto, rest, mgot⟩ p xp) else if xk = 1 then (⟨mo, mpg, mto, rest, mgot ++ bs⟩, p, C6.none) else (⟨mo, mpg, mto, rest, mgot⟩, p, C6.none) := rfl
      have hgl : mgot.length + bs.length ≤ 100000 := hlen
      generalize mStep ⟨mo, mpg, mto, (xk, xp, xq) :: rest, mgot⟩ p bs = st at *
      by_cases hA : xk = 2 ∧ xq = 1
      case' pos =>
        rw [if_pos hA] at hms
        obtain ⟨rfl, rfl⟩ := hA
        repeat (first | refine gx ?_ | refine gN fun _ => ?_ | refine gB fun _ => ?_ | fail)
        refine W.groupV [2, 2, 2] rfl ?_
        have hm1 : MAt ⟨mo, mpg, mto, rest, mgot⟩ b bp _ := ⟨_, _, _, _, _, _, rfl, hro2, hct2, hown⟩
        have hSt := Stored_spec ⟨mo, mpg, mto, rest, mgot⟩ b bp _ hm1 p hi Hp hp xp
        refine aG ?_
        repeat (first | refine gx ?_ | refine gN fun _ => ?_ | refine gB fun _ => ?_ | fail)
        refine aC (o := hSt) (h := ?_) (hro := RoIn.own 0 rfl)
        rintro _ _ ⟨Hp2, rfl, rfl, hp2⟩
        refine aG ?_
        repeat (first | refine gx ?_ | refine gN fun _ => ?_ | refine gB fun _ => ?_ | fail)
        refine W.order [1, 0, 0, 0, 0] rfl ?_
        refine W.split3 rfl ?_
        have hown2 := hown
      case' neg =>
        rw [if_neg hA] at hms
        have hp2 := hp
        by_cases hB : xk = 1
        case' pos =>
          rw [if_pos hB] at hms
          subst hB
          repeat (first | refine gx ?_ | refine gN fun _ => ?_ | refine gB fun _ => ?_ | fail)
          refine aPr (appU8 tab_ok rfl rfl rfl hown (by intro p hp; simp [hp]) rfl hrb (fun q hq => .inr hq) (by omega) (by omega)) ?_
          rintro _ _ ⟨ag2, cg2, Hg2, rfl, rfl, hown2⟩
          refine aG ?_
          repeat (first | refine gx ?_ | refine gN fun _ => ?_ | refine gB fun _ => ?_ | fail)
          have hm1 : MAt ⟨mo, mpg, mto, rest, mgot ++ bs⟩ b bp _ := ⟨_, _, _, _, _, _, rfl, hro2, hct2, hown2⟩
          refine W.order [3, 3, 0, 2, 0, 0, 0] rfl ?_
          refine aG ?_
        case' neg =>
          rw [if_neg hB] at hms
          have hown2 := hown
          have hm1 : MAt ⟨mo, mpg, mto, rest, mgot⟩ b bp _ := ⟨_, _, _, _, _, _, rfl, hro2, hct2, hown⟩
          by_cases h2 : xk = 2
          case' pos =>
            have hq1 : ¬ xq = 1 := fun h => hA ⟨h2, h⟩
            subst h2
            repeat (first | refine gh hq1 ?_ | refine gN fun _ => ?_ | refine gB fun _ => ?_ | fail)
          case' neg =>
            repeat (first | refine gh (gc2 h2 hB) ?_ | refine gN fun _ => ?_ | refine gB fun _ => ?_ | fail)
          all_goals
            refine W.order [2, 2, 2, 2, 0, 0, 0] rfl ?_
            refine aG ?_
      all_goals
        refine aC (o := Busy_spec _ b bp _ hm1) (h := ?_) (hro := RoIn.append (RoIn.own 0 rfl) (RoIn.append (RoIn.own 1 rfl) (RoIn.own 2 rfl)))
        rintro _ _ ⟨rfl, rfl⟩
        refine aG ?_
        cases rest with
        | cons y rest =>
          have hpos : 0 < st.1.todo.length := by rw [hms]; simp
          rw [if_pos hpos] at hout
          subst hout hms
          repeat (first | refine gx ?_ | refine gN fun _ => ?_ | refine gB fun _ => ?_ | fail)
          refine W.groupV [0, 0, 0] rfl ?_
          refine W.order [0, 0, 2] rfl ?_
          refine W.ret (fin _ _ (FinOk.first 2 (aRc .nil) rfl ?_))
          exact ⟨_, _, rfl, rfl, hm1, hp2⟩
        | nil =>
          have hpos : ¬ 0 < st.1.todo.length := by rw [hms]; simp
          rw [if_neg hpos] at hout
          repeat (first | refine gx ?_ | refine gN fun _ => ?_ | refine gB fun _ => ?_ | fail)
          by_cases ho : mo = 1
          case' pos =>
            rw [if_pos ho] at hout
            subst ho
            subst hms
            have hL := fun cb => Load_spec _ hsi.ok bp _ hp2 mto mpg _ _ cb _ (Own.roSl hown2)
            repeat (first | refine gx ?_ | refine gN fun _ => ?_ | refine gB fun _ => ?_ | fail)
            refine W.drawH tab_ok 17 [.b false, .b false, .b false, .b false, .b false, .b false, .b false, .b false, .b false, .b false, .b false, .b false, .b false, .b false, .b false, .b false, .b true] [3] follows (by decide +kernel) (by decide +kernel) rfl (by decide) rfl ?_
            intro _
            refine dG ?_
            repeat (first | refine dL ?_ | refine dS ?_ | (refine dN ?_; intro _; refine dG ?_) | (refine dB ?_; intro _; refine dG ?_) | fail)
            refine dC (o := hL _) (h := ?_) (hro := RoIn.all (fun q hq => by simp [hq]))
            rintro _ _ ⟨rfl, Hp3, rfl, hp3⟩
            refine dG ?_
            refine WD.nil (W.dropNil (aG ?_))
            have hPn := PPin_spec _ hli bp Hp3 hp3 mpg
            refine W.drawH tab_ok 9 [.b false, .b false, .b false, .b false, .b false, .b false, .b false, .b false, .b true] [0] follows (by decide +kernel) (by decide +kernel) rfl (by decide) rfl ?_
            intro _
            refine dG ?_
            repeat (first | refine dL ?_ | refine dS ?_ | (refine dN ?_; intro _; refine dG ?_) | (refine dB ?_; intro _; refine dG ?_) | fail)
            refine dC (o := hPn) (h := ?_)
            rintro _ _ ⟨rfl, Hp4, rfl, hp4⟩
            refine dG ?_
            refine WD.nil (W.dropNil (aG ?_))
            refine W.groupV [1, 1, 1] rfl ?_
            have hp5 := hp4
          case' neg =>
            rw [if_neg ho] at hout
            subst hms
            repeat (first | refine gh ho ?_ | refine gN fun _ => ?_ | refine gB fun _ => ?_ | fail)
            refine W.groupV [0, 0, 0] rfl ?_
            have hp5 := hp2
          all_goals
            subst hout
            refine aG ?_
            refine aC (o := Stop_spec _ b bp _ hm1) (h := ?_)
            rintro _ _ ⟨H', rfl, hm'⟩
            refine aG ?_
            repeat (first | refine gw ?_ | refine gN fun _ => ?_ | refine gB fun _ => ?_ | fail)
            refine W.order [0, 0, 2] rfl ?_
            refine W.ret (fin _ _ (FinOk.first 2 (aRc .nil) rfl ?_))
            exact ⟨_, _, rfl, rfl, hm', hp5⟩
  · rw [if_pos (by simpa using he)] at hout
    subst hout
    refine Ctr.enter (n := 97) [.cell 6 89] [(0, _), (1, _), (2, _)] Try.func28 rfl rfl rfl (lb rfl) Try.call28 ⟨rfl, rfl, rfl, trivial⟩ ?_
    intro cx fin fin0
    refine aG ?_
    repeat (first | refine gw ?_ | refine gN fun _ => ?_ | refine gB fun _ => ?_ | fail)
    refine aT ?_ (hb := by exact gd he)
    refine aC (o := hStop) (h := ?_)
    rintro _ _ ⟨H', rfl, hm'⟩
    refine aG ?_
    refine aC (o := hdone) (h := ?_)
    rintro _ _ ⟨rfl, rfl⟩
    refine aG ?_
    repeat (first | refine gw ?_ | refine gN fun _ => ?_ | refine gB fun _ => ?_ | fail)
    refine W.order [1, 2, 1] rfl ?_
    refine W.ret (fin _ _ (FinOk.first 2 (aRc .nil) rfl ?_))
    exact ⟨_, _, rfl, rfl, hm', hp⟩
end Go.Proofs.Ytfajcpnbhnddbaa
namespace Go.Proofs.Ytfajcpnbhnddbaa
open Go Go.Sl Go.IntWalk
set_option maxHeartbeats 8000000
set_option maxRecDepth 20000
theorem turn_some {hand : Nat} : ∀ {m k : Nat} {fs : List Fl} {i q : Nat}, (turnFrom hand m k fs).2 = some (i, q) → 0 < fs.length → i < fs.length ∧ (((turnFrom hand m k fs).1.getD i Fl.none).used = false ∨ ((turnFrom hand m k fs).1.getD i Fl.none).pins = 0)
  | 0, k, fs, i, q, h, _ => by cases h
  | m + 1, k, fs, i, q, h, h0 => by
    have hc := Nat.mod_lt (hand + k) h0
    unfold turnFrom at h ⊢
    split at h
    · rename_i hg
      simp only [Option.some.injEq, Prod.mk.injEq] at h
      obtain ⟨rfl, -⟩ := h
      rw [if_pos hg]
      refine ⟨hc, ?_⟩
      simp only
      rw [getD_set_eq hc]
      generalize fs.getD ((hand + k) % fs.length) Fl.none = f at hg
      unfold Fl.goes at hg ⊢
      split
      · rename_i hu; exact .inl hu
      · rename_i hu
        rw [if_neg hu] at hg
        split
        · rename_i hp; exact .inr hp
        · rename_i hp; rw [if_neg hp] at hg; cases hg
    · rename_i hg
      rw [if_neg hg]
      have := turn_some h (by simpa using h0)
      simpa using this
theorem victim_some {p : Pt} (hi : p.Inv) {i : Nat} (h : p.victim.2 = some i) : i < p.victim.1.fs.length ∧ (p.victim.1.at_ (i : Int)).pins = 0 := by
  have hl : p.victim.1.fs.length = p.fs.length := setAll_len _ _
  have h1 := hi.ok.2.1
  have hv := Pt.victim_inv hi
  unfold Pt.victim at h
  simp only [Option.map_eq_some_iff, Prod.exists, exists_and_right, exists_eq_right] at h
  obtain ⟨q, hq⟩ := h
  have := turn_some hq (by simp; omega)
  obtain ⟨h2, h3⟩ := this
  have h4 : i < p.fs.length := by simpa using h2
  refine ⟨by omega, ?_⟩
  rw [Pt.at_nat (by omega)]
  have h5 : (turnFrom p.hand.toNat (2 * p.fs.length) 0 (p.fs.map Fr.fl)).1.length = p.fs.length := by rw [turnFrom_len]; simp
  have h6 : p.victim.1.fs[i]'(by omega) = p.fs[i].setFl ((turnFrom p.hand.toNat (2 * p.fs.length) 0 (p.fs.map Fr.fl)).1[i]'(by omega)) := setAll_get _ _ i (by rw [setAll_len]; exact h4) h4 (by omega)
  have h7 : (turnFrom p.hand.toNat (2 * p.fs.length) 0 (p.fs.map Fr.fl)).1.getD i Fl.none = (turnFrom p.hand.toNat (2 * p.fs.length) 0 (p.fs.map Fr.fl)).1[i]'(by omega) := getD_eq (by omega)
  rw [h7] at h3
  rcases h3 with h3 | h3
  · have h8 := hv.emp (p.victim.1.fs[i]'(by omega)) (List.getElem_mem _) (by rw [h6]; exact h3)
    rw [h8]
    rfl
  · rw [h6]
    exact h3
def DocM (m : Mc) (p : Pt) (v : Value) (D : HL) : Prop := ∃ a c r at_ ct rt ag cg rg, v = .agg (List.toArray [.slice a p.fs.length c, .int .i64 p.hand, .int .i64 m.op, .int .i64 m.page, .slice at_ m.todo.length ct, .int .i64 m.to, .slice ag m.got.length cg]) ∧
  RoSl 6 (dflat p.fs) a p.fs.length r ∧ RoSl 3 (ios m.todo) at_ m.todo.length rt ∧ RoSl 1 (u8s m.got) ag m.got.length rg ∧ m.todo.length ≤ ct ∧ (∀ q ∈ r, q ∈ D) ∧ (∀ q ∈ rt, q ∈ D) ∧ (∀ q ∈ rg, q ∈ D)
theorem DocM.mono {m : Mc} {p : Pt} {v : Value} {D D' : HL} (h : DocM m p v D) (hs : ∀ q ∈ D, q ∈ D') : DocM m p v D' := by
  obtain ⟨a, c, r, at_, ct, rt, ag, cg, rg, h1, h2, h3, h4, h5, h6, h7, h8⟩ := h
  exact ⟨a, c, r, at_, ct, rt, ag, cg, rg, h1, h2, h3, h4, h5, fun q hq => hs q (h6 q hq), fun q hq => hs q (h7 q hq), fun q hq => hs q (h8 q hq)⟩
def Re.d (r : Re) : Value := .agg #[.bool r.done, .int .i64 r.errno, .bool r.hit, .string (bstr r.data), .int .u64 r.add.h, .int .u64 r.add.m, .int .u64 r.add.e, .int .u64 r.add.r, .int .u64 r.add.w, .int .u64 r.add.f]
def DocOut (o : Mc × Pt × Re) (D : HL) (v : Value) (L' : List HL) : Prop := ∃ H v1, L' = [H] ∧ v = .tuple #[v1, o.2.2.d] ∧ DocM o.1 o.2.1 v1 (H ++ D)
theorem release_fs {p : Pt} {i : Nat} (hi : i < p.fs.length) (h0 : (p.at_ (i : Int)).pins = 0) : (p.release (i : Int)).1.fs = p.fs.set i Fr.zero ∧ (p.release (i : Int)).1.hand = p.hand := by
  unfold Pt.release
  rw [if_neg (by unfold inFr; omega), if_pos h0, Int.toNat_natCast]
  exact ⟨rfl, rfl⟩
end Go.Proofs.Ytfajcpnbhnddbaa
namespace Go.Proofs.Ytfajcpnbhnddbaa
open Go Go.Sl Go.IntWalk
set_option maxHeartbeats 8000000
set_option maxRecDepth 20000
theorem doPageHand (p : Pt) (page : Int) (g : Fr → Fr × Int) : (p.doPage page g).1.hand = p.hand := by unfold Pt.doPage; split <;> rfl
theorem getHand (p : Pt) (page off n : Int) : (p.get page off n).1.hand = p.hand := by unfold Pt.get; split <;> rfl
theorem releaseHand (p : Pt) (i : Int) : (p.release i).1.hand = p.hand := by
  unfold Pt.release
  split
  · rfl
  · split <;> rfl
theorem DocM.keep {m' : Mc} {p' : Pt} {a c r at_ ct rt ag cg rg} {D H : HL} (h2 : RoSl 6 (dflat p'.fs) a p'.fs.length r) (h3 : RoSl 3 (ios m'.todo) at_ m'.todo.length rt) (h4 : RoSl 1 (u8s m'.got) ag m'.got.length rg) (h5 : m'.todo.length ≤ ct)
    (h6 : ∀ q ∈ r, q ∈ H ++ D) (h7 : ∀ q ∈ rt, q ∈ H ++ D) (h8 : ∀ q ∈ rg, q ∈ D) :
    DocM m' p' (.agg (List.toArray [.slice a p'.fs.length c, .int .i64 p'.hand, .int .i64 m'.op, .int .i64 m'.page, .slice at_ m'.todo.length ct, .int .i64 m'.to, .slice ag m'.got.length cg])) (H ++ D) :=
  ⟨a, c, r, at_, ct, rt, ag, cg, rg, rfl, h2, h3, h4, h5, h6, h7, fun q hq => List.mem_append_right _ (h8 q hq)⟩
end Go.Proofs.Ytfajcpnbhnddbaa
namespace Go.Proofs.Ytfajcpnbhnddbaa
open Go Go.Sl Go.IntWalk
set_option maxHeartbeats 8000000
set_option maxRecDepth 20000
theorem _root_.Go.Sl.OpVal.maxL {P : Program} {n : Nat} {R : HL} {cx : Cx} {ρ : Env} {L : List HL} {t1 t2 ty : TypeId} {x y : Operand} {kk k2 : IntKind} {i j : Int} (hx : ev? ρ x = some (.int kk i)) (hy : ev? ρ y = some (.int k2 j)) (h : ¬ i < j) :
    OpVal P n R cx (.call ⟨.builtin .max, #[x, y], #[t1, t2]⟩) ty ρ L (.int kk i) := by
  have := OpVal.max2 (P := P) (n := n) (R := R) (cx := cx) (L := L) (t1 := t1) (t2 := t2) (ty := ty) hx hy
  rwa [if_neg h] at this
def dpgs (fs : List Fr) (g : Fr → Bool) : List Int := (fs.filter fun f => f.dirty && g f).map Fr.page
theorem selD_from (p : Pt) (page : Int) : ∀ (fs : List Fr) (k : Nat), (∀ i (h : i < fs.length), p.at_ ((k + i : Nat) : Int) = fs[i]) → selD p page (dirtyFrom fs k) = dpgs fs fun f => decide (page < 0) || decide (f.page = page)
  | [], _, _ => rfl
  | f :: fs, k, h => by
    have h0 := h 0 (by simp)
    simp only [Nat.add_zero, List.getElem_cons_zero] at h0
    have ih := selD_from p page fs (k + 1) fun i hi => by
      have := h (i + 1) (by simp; omega)
      rw [show k + 1 + i = k + (i + 1) by omega, this]
      rfl
    unfold selD dpgs at ih ⊢
    unfold dirtyFrom
    by_cases hd : f.dirty = true
    · rw [if_pos hd, List.filter_cons, List.filter_cons, h0]
      simp only [hd, Bool.true_and]
      split
      · simp only [List.map_cons, h0, ih]
      · exact ih
    · rw [if_neg hd, List.filter_cons, if_neg (by simp [hd])]
      exact ih
theorem selD_eq (p : Pt) (page : Int) : selD p page p.dirty = dpgs p.fs fun f => decide (page < 0) || decide (f.page = page) :=
  selD_from p page p.fs 0 fun i h => by rw [Nat.zero_add]; exact Pt.at_nat h
theorem filter_one {α : Type} (g : α → Bool) : ∀ (l : List α) (j : Nat) (hj : j < l.length), g l[j] = true → (∀ k (h : k < l.length), g l[k] = true → k = j) → l.filter g = [l[j]]
  | [], _, hj, _, _ => by cases hj
  | x :: l, 0, _, h, hu => by
    simp only [List.getElem_cons_zero] at h ⊢
    rw [List.filter_cons, if_pos h, List.filter_eq_nil_iff.2]
    · intro y hy
      obtain ⟨k, hk, rfl⟩ := List.getElem_of_mem hy
      intro hg
      have := hu (k + 1) (by simp; omega) hg
      omega
  | x :: l, j + 1, hj, h, hu => by
    rw [List.filter_cons, if_neg, filter_one g l j (by simpa using hj) h]
    · rfl
    · intro k hk hg
      have := hu (k + 1) (by simp; omega) hg
      omega
    · intro hg
      have := hu 0 (by simp) hg
      omega
theorem selD_page {p : Pt} (hi : p.Inv) {page : Int} (h0 : 0 ≤ page) : selD p page p.dirty = match mget p.tbl page with
    | some i => if (p.at_ i).dirty = true then [page] else []
    | none => [] := by
  have hn : decide (page < 0) = false := by simp; omega
  rw [selD_eq]
  unfold dpgs
  simp only [hn, Bool.false_or]
  have hu : ∀ k (h : k < p.fs.length), (p.fs[k].dirty && decide (p.fs[k].page = page)) = true → mget p.tbl page = some (k : Int) := by
    intro k hk hg
    simp only [Bool.and_eq_true, decide_eq_true_eq] at hg
    by_cases hus : p.fs[k].used = true
    · rw [← hg.2]; exact hi.inv k hk hus
    · have := hi.emp _ (List.getElem_mem hk) (by simpa using hus)
      rw [this] at hg
      exact absurd hg.1 (by decide)
  cases hg : mget p.tbl page with
  | none =>
    rw [List.filter_eq_nil_iff.2]
    · rfl
    · intro f hf hq
      obtain ⟨k, hk, rfl⟩ := List.getElem_of_mem hf
      rw [hg] at hu
      exact absurd (hu k hk hq) (by simp)
  | some i =>
    obtain ⟨j, hj, rfl, hus, hpg⟩ := hi.tbl page i hg
    simp only
    rw [Pt.at_nat hj]
    by_cases hd : p.fs[j].dirty = true
    · rw [if_pos hd, filter_one _ p.fs j hj (by simp [hd, hpg]) (fun k hk hq => by have := hu k hk hq; rw [hg] at this; simp at this; omega)]
      simp [hpg]
    · rw [if_neg hd, List.filter_eq_nil_iff.2]
      · rfl
      · intro f hf hq
        obtain ⟨k, hk, rfl⟩ := List.getElem_of_mem hf
        have := hu k hk hq
        rw [hg] at this
        simp only [Option.some.injEq, Int.natCast_inj] at this
        subst this
        simp [hd] at hq
theorem dpgs_snoc (fs : List Fr) (f : Fr) (g : Fr → Bool) : dpgs (fs ++ [f]) g = dpgs fs g ++ (if (f.dirty && g f) = true then [f.page] else []) := by
  unfold dpgs
  rw [List.filter_append, List.map_append, List.filter_cons]
  split <;> rfl
theorem dpgs_len (fs : List Fr) (g : Fr → Bool) : (dpgs fs g).length ≤ fs.length := by
  unfold dpgs
  rw [List.length_map]
  exact List.length_filter_le _ _
end Go.Proofs.Ytfajcpnbhnddbaa
namespace Go.Proofs.Ytfajcpnbhnddbaa
open Go Go.Sl Go.IntWalk
set_option maxHeartbeats 8000000
set_option maxRecDepth 20000
theorem bstr_extract (bs : List Int) (l h : Nat) : (bstr bs).extract l h = bstr ((bs.drop l).take (h - l)) := by
  apply ByteArray.ext
  rw [ByteArray.data_extract]
  simp [bstr, List.extract_eq_take_drop, List.map_take, List.map_drop]
theorem _root_.Go.Sl.OpVal.strSl {P : Program} {T : Tab} (hT : TabOk P T) {n : Nat} {R : HL} {cx : Cx} {ρ : Env} {L : List HL} {t ty : TypeId} {x lo hi : Operand} {bs : List Int} {k1 k2 : IntKind} {l h : Nat}
    (hx : ev? ρ x = some (.string (bstr bs))) (ht : hasNat T.strs t = true) (hl : ev? ρ lo = some (.int k1 (l : Int))) (hh : ev? ρ hi = some (.int k2 (h : Int))) (h1 : l ≤ h) (h2 : h ≤ bs.length) :
    OpVal P n R cx (.slice t x (some lo) (some hi) none) ty ρ L (.string (bstr ((bs.drop l).take (h - l)))) := by
  refine ⟨fun oo a w ho hty hf hs => ?_⟩
  have hu := hT.strs _ (hasNat_mem ht)
  have h3 : h ≤ (bstr bs).size := by rw [bstr_size]; exact h2
  unfold execOp; rw [ho]
  simp [Instr.sliceAt, Instr.slice, Instr.sliceBounds, Instr.sliceBound, underlying, hu, hf.ev hx, hf.ev hl, hf.ev hh, asIntOf, h1, h3, bstr_extract]
end Go.Proofs.Ytfajcpnbhnddbaa
namespace Go.Proofs.Ytfajcpnbhnddbaa
open Go Go.Sl Go.IntWalk
set_option maxHeartbeats 8000000
set_option maxRecDepth 20000
theorem cleanHand (p : Pt) (i : Int) : (p.clean i).1.hand = p.hand := by unfold Pt.clean; split <;> rfl
theorem loadHand (p : Pt) (i page : Int) (bs : List Int) : (p.load i page bs).1.hand = p.hand := by
  unfold Pt.load
  split
  · split <;> rfl
  · rfl
end Go.Proofs.Ytfajcpnbhnddbaa
namespace Go.Proofs.Ytfajcpnbhnddbaa
set_option linter.unusedVariables false
open Go Go.Sl Go.IntWalk
set_option maxHeartbeats 4000000
set_option maxRecDepth 20000
def lds (t : List Io) : Nat := (t.filter fun x => decide (x.1 = 1)).length
structure MInv (m : Mc) (p : Pt) : Prop where
  inv : p.Inv
  u8 : u8ok m.got
  idle : m.todo = [] → m.got = []
  room : m.got.length + 16 * lds m.todo ≤ 32
  sto : ∀ x ∈ m.todo, x.1 = 2 → (x.2.2 = 0 ∨ x.2.2 = 1) ∧ ∃ j : Nat, j < p.fs.length ∧ mget p.tbl x.2.1 = some (j : Int) ∧ (m.op = 1 → (p.at_ j).pins = 0)
  one : m.op = 1 → ∀ l x r, m.todo = l ++ x :: r → x.1 = 2 → x.2.2 = 1 → ∀ y ∈ r, y.1 ≠ 2
theorem MInv.same {m m' : Mc} {p p' : Pt} (hp : p'.Inv) (ht : m'.todo = []) (hg : m'.got = []) : MInv m' p' :=
  ⟨hp, by rw [hg]; (intro b hb; cases hb), fun _ => hg, by rw [hg, ht]; decide, (by rw [ht]; intro x hx; cases hx), by rw [ht]; intro _ l x r h; simp at h⟩
theorem idle_inv {p : Pt} (hp : p.Inv) : MInv Mc.idle p := MInv.same (m := Mc.idle) (p := p) hp rfl rfl
theorem mem_pages {k : Int} {ps : List Int} {x : Io} (h : x ∈ pages k ps) : x.1 = k ∧ x.2.1 ∈ ps ∧ (x.2.2 = 0 ∨ x.2.2 = 1) := by
  unfold pages at h
  obtain ⟨q, hq, hx⟩ := List.mem_flatMap.1 h
  simp only [both, List.mem_cons, List.not_mem_nil, or_false] at hx
  rcases hx with rfl | rfl
  · exact ⟨rfl, hq, .inl rfl⟩
  · exact ⟨rfl, hq, .inr rfl⟩
theorem lds_pages2 (ps : List Int) : lds (pages 2 ps) = 0 := by
  unfold lds
  rw [List.filter_eq_nil_iff.2]
  · rfl
  · intro x hx
    rw [(mem_pages hx).1]
    decide
theorem lds_append (a b : List Io) : lds (a ++ b) = lds a + lds b := by unfold lds; simp
theorem dirty_used {p : Pt} (hi : p.Inv) {j : Nat} (hj : j < p.fs.length) (hd : p.fs[j].dirty = true) : p.fs[j].used = true := by
  by_cases hu : p.fs[j].used = true
  · exact hu
  · have := hi.emp _ (List.getElem_mem hj) (by simpa using hu)
    rw [this] at hd
    cases hd
theorem mem_dpgs {p : Pt} (hi : p.Inv) {g : Fr → Bool} {x : Int} (h : x ∈ dpgs p.fs g) : ∃ j : Nat, j < p.fs.length ∧ mget p.tbl x = some (j : Int) := by
  unfold dpgs at h
  obtain ⟨f, hf, rfl⟩ := List.mem_map.1 h
  obtain ⟨hf1, hf2⟩ := List.mem_filter.1 hf
  obtain ⟨j, hj, rfl⟩ := List.getElem_of_mem hf1
  simp only [Bool.and_eq_true] at hf2
  exact ⟨j, hj, hi.inv j hj (dirty_used hi hj hf2.1)⟩
theorem flush_inv {m : Mc} {p : Pt} (hi : p.Inv) (hop : m.op ≠ 1) (hg : m.got = []) (ds : List Int) (hds : ∀ x ∈ ds, ∃ j : Nat, j < p.fs.length ∧ mget p.tbl x = some (j : Int)) : MInv { m with todo := planFlush ds } p := by
  refine ⟨hi, by rw [hg]; (intro b hb; cases hb), fun h => hg, ?_, fun x hx hk => ?_, fun h => absurd h hop⟩
  · simp only
    rw [hg]
    unfold planFlush
    rw [lds_append, lds_pages2]
    decide
  · simp only [planFlush, List.mem_append, List.mem_cons, List.not_mem_nil, or_false] at hx
    rcases hx with hx | rfl
    · obtain ⟨h1, h2, h3⟩ := mem_pages hx
      obtain ⟨j, hj, h4⟩ := hds _ h2
      exact ⟨h3, j, hj, h4, fun h => absurd h hop⟩
    · exact absurd hk (by decide)
theorem begin_inv {m : Mc} {p : Pt} (h : MInv m p) (ht : m.todo = []) {q : Rq} (h1 : 1 ≤ q.op) (h8 : q.op ≤ 8) (hu : u8ok q.data) : MInv (mBegin m p q).1 (mBegin m p q).2.1 := by
  have hi := h.inv
  have hg := h.idle ht
  have hop : q.op = 1 ∨ q.op = 2 ∨ q.op = 3 ∨ q.op = 4 ∨ q.op = 5 ∨ q.op = 6 ∨ q.op = 7 ∨ q.op = 8 := by omega
  obtain ⟨qo, qp, qf, ql, qd⟩ := q
  simp only at hop hu
  rcases hop with rfl | rfl | rfl | rfl | rfl | rfl | rfl | rfl
  · show MInv (mFetch ⟨1, qp, m.to, m.todo, m.got⟩ p).1 (mFetch ⟨1, qp, m.to, m.todo, m.got⟩ p).2.1
    unfold mFetch
    simp only
    split
    · exact MInv.same (m := m) (p := p) (Pt.doPage_inv hi qp pin_keeps) ht hg
    · have hvi := Pt.victim_inv hi
      unfold mMiss
      cases hv : p.victim.2 with
      | none => exact MInv.same (m := m) (p := p) hvi ht hg
      | some i =>
        obtain ⟨hj, hp0⟩ := victim_some hi hv
        simp only
        cases hd : (p.victim.1.at_ (i : Int)).dirty with
        | false =>
          have hi2 : (if (p.victim.1.at_ (i : Int)).used = true ∧ False then (p.victim.1.release (i : Int)).1 else p.victim.1).Inv := by
            split
            · exact Pt.release_inv hvi _
            · exact hvi
          refine ⟨?_, by rw [hg]; (intro b hb; cases hb), fun _ => hg, ?_, fun x hx hk => ?_, fun _ l x r hl hk => ?_⟩
          · split
            · exact Pt.release_inv hvi _
            · exact hvi
          · rw [hg]; exact Nat.le_refl 32
          · simp only [planFetch] at hx
            rw [if_neg (by simp)] at hx
            have := (mem_pages (by simpa using hx)).1
            omega
          · have hx : x ∈ planFetch qp false (p.victim.1.at_ (i : Int)).page := by
              have e : planFetch qp false (p.victim.1.at_ (i : Int)).page = l ++ x :: r := hl
              rw [e]; simp
            simp only [planFetch] at hx
            rw [if_neg (by simp)] at hx
            have := (mem_pages (by simpa using hx)).1
            omega
        | true =>
          rw [if_neg (by simp)]
          have hus : (p.victim.1.at_ (i : Int)).used = true := by
            rw [Pt.at_nat hj] at hd ⊢
            exact dirty_used hvi hj hd
          refine ⟨hvi, by rw [hg]; (intro b hb; cases hb), fun _ => hg, ?_, fun x hx hk => ?_, fun _ l x r hl hk hk2 y hy => ?_⟩
          · rw [hg]; exact Nat.le_refl 32
          · have hx2 : x ∈ planFetch qp true (p.victim.1.at_ (i : Int)).page := hx
            simp only [planFetch, if_true, List.mem_append] at hx2
            rcases hx2 with hx2 | hx2
            · obtain ⟨_, h2, h3⟩ := mem_pages hx2
              simp only [List.mem_cons, List.not_mem_nil, or_false] at h2
              refine ⟨h3, i, hj, ?_, fun _ => hp0⟩
              rw [h2, Pt.at_nat hj]
              rw [Pt.at_nat hj] at hus
              exact hvi.inv i hj hus
            · have := (mem_pages hx2).1
              omega
          · generalize (p.victim.1.at_ (i : Int)).page = o at hl
            have hl2 : [((2 : Int), o, (0 : Int)), (2, o, 1), (1, qp, 0), (1, qp, 1)] = l ++ x :: r := hl
            match l, hl2 with
            | [], e => simp only [List.nil_append, List.cons.injEq] at e; obtain ⟨rfl, -⟩ := e; exact absurd hk2 (by simp)
            | [_], e =>
              simp only [List.cons_append, List.nil_append, List.cons.injEq] at e
              obtain ⟨-, rfl, rfl⟩ := e
              simp only [List.mem_cons, List.not_mem_nil, or_false] at hy
              rcases hy with rfl | rfl <;> simp
            | [_, _], e => simp only [List.cons_append, List.nil_append, List.cons.injEq] at e; obtain ⟨-, -, rfl, -⟩ := e; exact absurd hk (by simp)
            | [_, _, _], e => simp only [List.cons_append, List.nil_append, List.cons.injEq] at e; obtain ⟨-, -, -, rfl, -⟩ := e; exact absurd hk (by simp)
            | _ :: _ :: _ :: _ :: l, e => simp at e
  · exact MInv.same (m := m) (p := p) (Pt.get_inv hi qp qf ql) ht hg
  · exact MInv.same (m := m) (p := p) (Pt.doPage_inv hi qp (put_keeps qf hu)) ht hg
  · exact MInv.same (m := m) (p := p) (Pt.doPage_inv hi qp unpin_keeps) ht hg
  · exact flush_inv (m := ⟨5, qp, m.to, m.todo, m.got⟩) hi (by simp) hg _ (fun x hx => by rw [selD_eq] at hx; exact mem_dpgs hi hx)
  · exact flush_inv (m := ⟨6, qp, m.to, m.todo, m.got⟩) hi (by simp) hg _ (fun x hx => by rw [selD_eq] at hx; exact mem_dpgs hi hx)
  · show MInv ⟨7, qp, m.to, m.todo, m.got⟩ (mDiscard p qp).1
    refine MInv.same (m := m) (p := p) ?_ ht hg
    unfold mDiscard
    split
    · exact hi
    · exact Pt.release_inv hi _
  · exact MInv.same (m := m) (p := p) hi ht hg
theorem clean_tbl (p : Pt) (i : Int) : (p.clean i).1.tbl = p.tbl := by unfold Pt.clean; split <;> rfl
theorem clean_len (p : Pt) (i : Int) : (p.clean i).1.fs.length = p.fs.length := by
  unfold Pt.clean
  split
  · rfl
  · simp [Pt.setF]
theorem mStep_inv {m : Mc} {p : Pt} (h : MInv m p) (hne : m.todo ≠ []) {bs : List Int} (hu : u8ok bs) (hl : bs.length = 16) :
    (mStep m p bs).2.1.Inv ∧ u8ok (mStep m p bs).1.got ∧ (mStep m p bs).1.got.length + 16 * lds (mStep m p bs).1.todo ≤ 32 ∧ (mStep m p bs).1.op = m.op ∧ (mStep m p bs).1.todo = m.todo.tail ∧
      ((mStep m p bs).1.todo ≠ [] → MInv (mStep m p bs).1 (mStep m p bs).2.1) := by
  obtain ⟨mo, mpg, mto, todo, mgot⟩ := m
  have hi := h.inv
  cases todo with
  | nil => exact absurd rfl hne
  | cons x rest =>
    obtain ⟨xk, xp, xq⟩ := x
    have hms : mStep ⟨mo, mpg, mto, (xk, xp, xq) :: rest, mgot⟩ p bs = if xk = 2 ∧ xq = 1 then (⟨mo, mpg, mto, rest, mgot⟩, mStored ⟨mo, mpg, mto, rest, mgot⟩ p xp) else if xk = 1 then (⟨mo, mpg, mto, rest, mgot ++ bs⟩, p, C6.none) else (⟨mo, mpg, mto, rest, mgot⟩, p, C6.none) := rfl
    have hlds : lds ((xk, xp, xq) :: rest) = (if xk = 1 then 1 else 0) + lds rest := by
      unfold lds
      rw [List.filter_cons]
      by_cases hk : xk = 1
      · simp [hk]; omega
      · simp [hk]
    have hroom := h.room
    simp only at hroom
    rw [hlds] at hroom
    have hone : mo = 1 → ∀ l x r, rest = l ++ x :: r → x.1 = 2 → x.2.2 = 1 → ∀ y ∈ r, y.1 ≠ 2 := fun h1 l x r he => h.one h1 ((xk, xp, xq) :: l) x r (by show _ :: rest = _; rw [he]; rfl)
    have hsto : ∀ x ∈ rest, x.1 = 2 → (x.2.2 = 0 ∨ x.2.2 = 1) ∧ ∃ j : Nat, j < p.fs.length ∧ mget p.tbl x.2.1 = some (j : Int) ∧ (mo = 1 → (p.at_ j).pins = 0) := fun x hx => h.sto x (List.mem_cons_of_mem _ hx)
    rw [hms]
    by_cases hA : xk = 2 ∧ xq = 1
    · rw [if_pos hA]
      obtain ⟨rfl, rfl⟩ := hA
      obtain ⟨-, j, hj, hg, hpin⟩ := h.sto _ (List.mem_cons_self) rfl
      simp only at hg hpin
      have hci := Pt.clean_inv hi (j : Int)
      rw [if_neg (by decide)] at hroom
      have hr : mgot.length + 16 * lds rest ≤ 32 := by omega
      unfold mStored
      rw [hg]
      simp only [Option.getD_some]
      by_cases ho : mo = 1
      · rw [if_pos ho]
        have hri := Pt.release_inv hci (j : Int)
        refine ⟨hri, h.u8, hr, by first | trivial | rfl, by first | trivial | rfl, fun hne2 => ⟨hri, h.u8, fun h0 => absurd h0 hne2, hr, fun x hx hk => ?_, hone⟩⟩
        exact absurd hk (h.one ho [] _ rest rfl rfl rfl x hx)
      · rw [if_neg ho]
        refine ⟨hci, h.u8, hr, by first | trivial | rfl, by first | trivial | rfl, fun hne2 => ⟨hci, h.u8, fun h0 => absurd h0 hne2, hr, fun x hx hk => ?_, hone⟩⟩
        obtain ⟨h1, k, hk1, hk2, -⟩ := hsto x hx hk
        refine ⟨h1, k, ?_, ?_, fun h => absurd h ho⟩
        · rw [clean_len]; exact hk1
        · rw [clean_tbl]; exact hk2
    · rw [if_neg hA]
      by_cases hk : xk = 1
      · rw [if_pos hk] at hroom ⊢
        have hr : (mgot ++ bs).length + 16 * lds rest ≤ 32 := by rw [List.length_append]; omega
        have hu2 : u8ok (mgot ++ bs) := fun b hb => (List.mem_append.1 hb).elim (h.u8 b) (hu b)
        exact ⟨hi, hu2, hr, rfl, rfl, fun hne2 => ⟨hi, hu2, fun h0 => absurd h0 hne2, hr, hsto, hone⟩⟩
      · rw [if_neg hk] at hroom ⊢
        have hr : mgot.length + 16 * lds rest ≤ 32 := by omega
        exact ⟨hi, h.u8, hr, rfl, rfl, fun hne2 => ⟨hi, h.u8, fun h0 => absurd h0 hne2, hr, hsto, hone⟩⟩
theorem end_load_inv {m : Mc} {p : Pt} (h : MInv m p) (hne : m.todo ≠ []) {bs : List Int} (hu : u8ok bs) (hl : bs.length = 16) (to page : Int) : ((mStep m p bs).2.1.load to page (mStep m p bs).1.got).1.Inv := by
  obtain ⟨h1, h2, -⟩ := mStep_inv h hne hu hl
  exact Pt.load_inv h1 _ _ h2
theorem end_inv {m : Mc} {p : Pt} (h : MInv m p) (hne : m.todo ≠ []) (e : Int) {bs : List Int} (hu : u8ok bs) (hl : bs.length = 16) : MInv (mEnd m p e bs).1 (mEnd m p e bs).2.1 := by
  obtain ⟨h1, h2, h3, h4, h5, h6⟩ := mStep_inv h hne hu hl
  have hli := end_load_inv h hne hu hl m.to m.page
  unfold mEnd
  split
  · exact idle_inv h.inv
  · split
    · rename_i h0
      exact h6 (by intro he; rw [he] at h0; exact absurd h0 (by decide))
    · refine idle_inv ?_
      simp only
      split
      · exact Pt.doPage_inv hli _ pin_keeps
      · exact h1
theorem end_sto {m : Mc} {p : Pt} (h : MInv m p) (hne : m.todo ≠ []) : m.io.1 = 2 ∧ m.io.2.2 = 1 → ∃ j : Nat, j < p.fs.length ∧ mget p.tbl m.io.2.1 = some (j : Int) ∧ (m.op = 1 → (p.at_ j).pins = 0) := by
  rintro ⟨h1, -⟩
  cases ht : m.todo with
  | nil => exact absurd ht hne
  | cons x rest =>
    have hio : m.io = x := by unfold Mc.io; rw [ht]; rfl
    rw [hio] at h1 ⊢
    exact (h.sto x (by rw [ht]; exact List.mem_cons_self) h1).2
theorem data_k {m : Mc} {p : Pt} (h : MInv m p) : m.io.1 = 2 → m.io.2.2 = 0 ∨ m.io.2.2 = 1 := by
  intro h1
  cases ht : m.todo with
  | nil => unfold Mc.io at h1; rw [ht] at h1; exact absurd h1 (by decide)
  | cons x rest =>
    have hio : m.io = x := by unfold Mc.io; rw [ht]; rfl
    rw [hio] at h1 ⊢
    exact (h.sto x (by rw [ht]; exact List.mem_cons_self) h1).1
theorem got_len {m : Mc} {p : Pt} (h : MInv m p) {bs : List Int} (hl : bs.length = 16) : m.got.length + bs.length ≤ 100000 := by have := h.room; omega
end Go.Proofs.Ytfajcpnbhnddbaa
namespace Go.Proofs.Ytfajcpnbhnddbaa
open Go Go.Sl Go.IntWalk
set_option maxHeartbeats 8000000
set_option maxRecDepth 20000
theorem c6_self (c : C6) : ∀ f ∈ (Try.prog.fieldsOf 38).toList, SelfEq Try.prog c.l f := by
  have h : (Try.prog.fieldsOf 38).toList.map (fun f => (f.type, f.offset)) = [(36, 0), (36, 1), (36, 2), (36, 3), (36, 4), (36, 5)] := by kernel_rfl
  intro f hf
  have := List.mem_map_of_mem (f := fun f : Field => (f.type, f.offset)) hf
  rw [h] at this
  simp only [List.mem_cons, Prod.mk.injEq, List.not_mem_nil, or_false] at this
  have hi : Try.prog.underlying 36 = some (.int .u64) := Try.underlying36
  have ha : IsAgg Try.prog 36 false := ty_36.1
  rcases this with ⟨h1, h2⟩ | ⟨h1, h2⟩ | ⟨h1, h2⟩ | ⟨h1, h2⟩ | ⟨h1, h2⟩ | ⟨h1, h2⟩
  all_goals exact SelfEq.int (by rw [h1]; exact ha) (by rw [h1]; exact hi) (by rw [h2]; rfl)
theorem und_c6 : Try.prog.underlying 38 = some (.struct (Try.prog.fieldsOf 38)) := by kernel_rfl
theorem held_c6 : Try.prog.stoodInHeld 38 = false := by kernel_rfl
theorem guard_c6 : Try.prog.eqGuardType Try.prog.depth 38 = false := by kernel_rfl
theorem eqC {n : Nat} {R : HL} {cx : Cx} {ρ : Env} {L : List HL} {ty t' : TypeId} {x y : Operand} (c : C6) (hx : ev? ρ x = some c.v) (hy : ev? ρ y = some c.v) :
    OpVal Try.prog n R cx (.binOp .eql 38 x y t') ty ρ L (.bool true) := OpVal.eqSelf (l := c.l) hx hy und_c6 held_c6 guard_c6 (c6_self c)
theorem neC {n : Nat} {R : HL} {cx : Cx} {ρ : Env} {L : List HL} {ty t' : TypeId} {x y : Operand} (c : C6) (hx : ev? ρ x = some c.v) (hy : ev? ρ y = some c.v) :
    OpVal Try.prog n R cx (.binOp .neq 38 x y t') ty ρ L (.bool false) := OpVal.neSelf (l := c.l) hx hy und_c6 held_c6 guard_c6 (c6_self c)
end Go.Proofs.Ytfajcpnbhnddbaa
namespace Go.Sl
open Go
theorem Lf.congr {Y M L' : List HL} {w w' : World} (h : Y.flatten = M.flatten) (hl : Lf M L' w w') : Lf Y L' w w' := by
  unfold Lf at *
  rw [h]
  exact hl
theorem WD.storeR {P : Program} {n : Nat} {R : HL} {cx : Cx} {ops : Array Oper} {K : Env → List HL → Prop} {el : List Kd} {fl : List (Nat × Obj)} {ρ : Env} {Y M : List HL} {T : Tab} (hT : TabOk P T) {l : List Oper} {t ty : TypeId} {x y : Operand} {pos : String} {af : Array Edge} {b off m : Nat} {ag : Bool} {L' : List HL} {cl cl' vs : List Value} {e : TypeId} {v : Value}
    (hY : Y.flatten = M.flatten) (hx : ev? ρ x = some (.pointer (some ⟨b, off, none⟩))) (hu : Upd b (.cells cl.toArray e (0, 0)) (.cells cl'.toArray e (0, 0)) M L')
    (hy : ev? ρ y = some v) (hc : cells? v = some vs) (hz : look? T.tys t = some (ag, m)) (hl : vs.length = m) (h1 : allOne vs = true)
    (hv : splice? cl off vs = some cl')
    (hk : WD P n R cx ops el fl l ρ L' K) : WD P n R cx ops (.b true :: el) fl (⟨none, .store t x y, ty, pos, af, none⟩ :: l) ρ Y K := by
  refine WD.act rfl fun a w hf hs0 => ?_
  have hs : St cx.w0 cx.S0 R M w := hs0.perm (X := []) (by rw [hY]; simp)
  obtain ⟨A, B, e1, -⟩ := hu.split
  have hb : w.heap[b]? = some (.cells cl.toArray e (0, 0)) := hs.has (b, .cells cl.toArray e (0, 0)) (by rw [e1]; simp)
  have hst := run_storeCells_splice (P := P) hb hv h1
  have hcs := cells?_eq hc
  have hz' := (hT.tys _ (look?_mem hz)).2
  have hr : (execOp a.eval ⟨none, .store t x y, ty, pos, af, none⟩).run P w = .ok .skip (w.setRow b cl'.toArray) := by
    unfold execOp
    simp [hf.ev hx, hf.ev hy, Instr.storeAt, Instr.sureAddr, storeVar, hz' w, hcs, hl, hst]
  exact .inr (.inl ⟨_, hr, _, _, by simpa [Act.put] using hf, ⟨hs.upd hu (setRow_heap w b _ _ e _ hb) (fun j hj => setRow_other w b j _ hj) (setRow_size ..) ⟨rfl, rfl, rfl⟩, Lf.congr hY (Lf.upd hu (fun j hj => setRow_other w b j _ hj) (setRow_size ..))⟩, hk⟩)
theorem WD.guardGoCallQ {P : Program} {n : Nat} {R : HL} {cx : Cx} {ops : Array Oper} {K : Env → List HL → Prop} {el : List Kd} {fl : List (Nat × Obj)} {ρ : Env} {Y : List HL} {d : Nat} {c : Call} {ty : TypeId} {pos : String} {af : Array Edge} {l : List Oper} {j s : Nat} {want b : Bool} {fo : Operand} {xs : Array Operand} {tys : Array TypeId}
    {f : FuncId} {fst vs cap args : List Value} {ro : HL} {post : Value → List HL → Prop} (v0 : Value)
    (hj : (ops[j]?).bind (·.dst) = some s) (hb : ρ.get? s = some (.bool b)) (hw : b = want)
    (hc : c = ⟨.value fo, xs, tys⟩) (hfo : ev? ρ fo = some (.func (.func f) fst.toArray cap.toArray)) (hxs : evs? ρ xs.toList = some vs) (hargs : fst ++ vs ++ cap = args) (hi : P.inits.idxOf? f = none)
    (hsp : Ctr P f args [] ro post) (hv : ∀ v L', post v L' → v = v0) (hro : ∀ p ∈ ro, p ∈ R) (hd : d < n)
    (hk : WD P n R cx ops el fl l ((d, v0) :: ρ) Y K) :
    WD P n R cx ops (.b false :: el) fl (⟨some d, .call c, ty, pos, af, some (j, want)⟩ :: l) ρ Y K := by
  refine WD.guardGo hj hb hw fun E F i a h3 hf hwt => ⟨v0, .inl ⟨hwt, fun Y w hs => .inr ⟨f, args.toArray, w, ?_, hi, hsp.quiet hv hro hs⟩⟩, hk.go E F (i + 1) _ h3 (hf.put hd v0)⟩
  have hxs' := hf.evs hxs
  have hx : xs.map a.eval = vs.toArray := by cases xs; simp at hxs'; simp [hxs']
  unfold execOp
  subst hc
  have hcall := hsp.callable
  simp only [resolve, Deferred.ofValue, hf.ev hfo, hx, Sem.run_bind, Sem.run_pure, Result.andThen_ok, invoke]
  rw [show (fst.toArray ++ vs.toArray ++ cap.toArray) = args.toArray from by rw [← hargs]; simp, hcall]
theorem WD.guardGoA {P : Program} {n : Nat} {R : HL} {cx : Cx} {ops : Array Oper} {K : Env → List HL → Prop} {el : List Kd} {fl : List (Nat × Obj)} {ρ : Env} {Y : List HL} {d : Nat} {op : Op} {ty : TypeId} {pos : String} {af : Array Edge} {l : List Oper} {j s : Nat} {want b : Bool} {v : Value}
    (hj : (ops[j]?).bind (·.dst) = some s) (hb : ρ.get? s = some (.bool b)) (hw : b = want) (h : OpVal P n R cx op ty ρ Y v) (hd : d < n) (hk : WD P n R cx ops el fl l ((d, v) :: ρ) Y K) :
    WD P n R cx ops (.b true :: el) fl (⟨some d, op, ty, pos, af, some (j, want)⟩ :: l) ρ Y K :=
  WD.guardGo hj hb hw fun E F i a h3 hf hwt => .inl ⟨hwt, fun w hs => .inl ⟨_, _, h.go ⟨some d, op, ty, pos, af, some (j, want)⟩ a w rfl rfl hf hs, Y, ⟨hs, Lf.rfl'⟩, hk.go E F (i + 1) _ h3 (hf.put hd v)⟩⟩
end Go.Sl
namespace Go.Proofs.Ytfajcpnbhnddbaa
open Go Go.Sl
theorem dSb {n : Nat} {R : HL} {cx : Cx} {ρ ρ' : Env} {Y Y' M : List HL} {ops : Array Oper} {K : Env → List HL → Prop} {el el' : List Kd} {fl : List (Nat × Obj)} {ty t : TypeId} {x y : Operand} {pos : String} {af : Array Edge} {l l' : List Oper} {v : Value}
    {b off m : Nat} {lv cl' vs : List Value} {e : TypeId} {ag : Bool} {L2 : List HL} (i : Nat) (h : WD Try.prog n R cx ops el' fl l' ρ' Y' K) (hM : burstAt? i Y = some M := by exact rfl) (hx : ev? ρ x = some (.pointer (some ⟨b, off, none⟩)) := by exact rfl)
    (hu : Upd b (.cells lv.toArray e (0, 0)) (.cells cl'.toArray e (0, 0)) M L2 := by repeat (first | exact Upd.here | apply Upd.there))
    (hy : ev? ρ y = some v := by exact rfl) (hc : cells? v = some vs := by exact rfl) (hz : look? tab.tys t = some (ag, m) := by exact rfl) (hl : vs.length = m := by exact rfl) (ho : allOne vs = true := by exact rfl)
    (hv : splice? lv off vs = some cl' := by exact rfl) (h1 : ddrive tab n el l ρ = some (el', l', ρ') := by exact rfl) (h2 : norm? L2 = some Y' := by exact rfl) :
    WD Try.prog n R cx ops (.b true :: el) fl (⟨none, .store t x y, ty, pos, af, none⟩ :: l) ρ Y K := WD.storeR tab_ok (burstAt?_flat hM) hx hu hy hc hz hl ho hv (WD.step tab_ok h1 h2 h)
theorem dQg {n : Nat} {R : HL} {cx : Cx} {ρ ρ' : Env} {Y Y' : List HL} {ops : Array Oper} {K : Env → List HL → Prop} {el el' : List Kd} {fl : List (Nat × Obj)} {d : Nat} {ty : TypeId} {pos : String} {af : Array Edge} {l l' : List Oper} {v : Value} {j sl : Nat} {want bb : Bool} {ro : HL} {post : Value → List HL → Prop} {cc : Call} {fo : Operand} {xs : Array Operand} {tys : Array TypeId} {f : FuncId} {fst us cap args : List Value}
    (hj : (ops[j]?).bind (·.dst) = some sl := by exact rfl) (hb : ρ.get? sl = some (.bool bb) := by exact rfl) (hw : bb = want := by first | rfl | exact dt ‹_› | exact df ‹_› | exact ndT ‹_› | exact ndF ‹_› | (simp; done) | exact dt (by omega) | exact df (by omega) | exact ndT (by omega) | exact ndF (by omega) | omega)
    (hc : cc = ⟨.value fo, xs, tys⟩ := by exact rfl) (hfo : ev? ρ fo = some (.func (.func f) fst.toArray cap.toArray) := by exact rfl) (hxs : evs? ρ xs.toList = some us := by exact rfl) (hargs : fst ++ us ++ cap = args := by exact rfl)
    (hi : Try.prog.inits.idxOf? f = none := by kernel_rfl) (o : Ctr Try.prog f args [] ro post) (h : WD Try.prog n R cx ops el' fl l' ρ' Y' K) (hv : ∀ u L', post u L' → u = v := by (rintro _ _ ⟨rfl, _⟩; rfl)) (hro : ∀ p ∈ ro, p ∈ R := by first | (intro p hp; cases hp; done) | (intro p hp; simpa using hp) | (intro p hp; simp at hp ⊢; simp [hp]; done)) (hd : d < n := by exact lb rfl)
    (h1 : ddrive tab n el l ((d, v) :: ρ) = some (el', l', ρ') := by exact rfl) (h2 : norm? Y = some Y' := by exact rfl) :
    WD Try.prog n R cx ops (.b false :: el) fl (⟨some d, .call cc, ty, pos, af, some (j, want)⟩ :: l) ρ Y K := WD.guardGoCallQ v hj hb hw hc hfo hxs hargs hi o hv hro hd (WD.step tab_ok h1 h2 h)
theorem dVg {n : Nat} {R : HL} {cx : Cx} {ρ ρ' : Env} {Y Y' : List HL} {ops : Array Oper} {K : Env → List HL → Prop} {el el' : List Kd} {fl : List (Nat × Obj)} {d : Nat} {ty : TypeId} {pos : String} {af : Array Edge} {l l' : List Oper} {v : Value} {j sl : Nat} {want bb : Bool} {op : Op} (o : OpVal Try.prog n R cx op ty ρ Y v) (h : WD Try.prog n R cx ops el' fl l' ρ' Y' K)
    (hj : (ops[j]?).bind (·.dst) = some sl := by exact rfl) (hb : ρ.get? sl = some (.bool bb) := by exact rfl) (hw : bb = want := by first | rfl | exact dt ‹_› | exact df ‹_› | exact ndT ‹_› | exact ndF ‹_› | (simp; done) | exact dt (by omega) | exact df (by omega) | exact ndT (by omega) | exact ndF (by omega) | omega) (hd : d < n := by exact lb rfl)
    (h1 : ddrive tab n el l ((d, v) :: ρ) = some (el', l', ρ') := by exact rfl) (h2 : norm? Y = some Y' := by exact rfl) :
    WD Try.prog n R cx ops (.b true :: el) fl (⟨some d, op, ty, pos, af, some (j, want)⟩ :: l) ρ Y K := WD.guardGoA hj hb hw o hd (WD.step tab_ok h1 h2 h)
theorem dAp {n : Nat} {R : HL} {cx : Cx} {ρ : Env} {Y rest : List HL} {ops : Array Oper} {K : Env → List HL → Prop} {el : List Kd} {fl : List (Nat × Obj)} {d : Nat} {ty t : TypeId} {x y : Operand} {pos : String} {af : Array Edge} {l : List Oper} {m e bytes len cap nx cxx bx ox : Nat} {cs news : List Value} {a : Option Addr} {H : HL} {lx : List Value} {ex : TypeId} {frx : Nat × Nat} (ho : Own m e cs a len cap H)
    (hk : ∀ v L', (∃ a' cap' H', v = .slice a' (len + nx) cap' ∧ L' = [H'] ∧ Own m e (cs ++ news) a' (len + nx) cap' H') → WD Try.prog n R cx ops el fl l ((d, v) :: ρ) (L' ++ rest) K)
    (ht : look? tab.sls t = some e := by exact rfl) (hi : look? tab.infs e = some (m, bytes) := by exact rfl) (hs : ev? ρ x = some (.slice a len cap) := by exact rfl) (hH : ∀ p ∈ H, p ∈ Y.flatten := by (intro p hp; simp [hp]))
    (hx : ev? ρ y = some (.slice (some ⟨bx, ox, none⟩) nx cxx) := by exact rfl) (hb : At R Y bx (.cells lx.toArray ex frx) := by repeat (first | exact oh | exact rh | exact rhF | apply ot | apply raF | apply rt)) (hn : seg? lx ox (nx * m) = some news := by exact rfl)
    (h1 : allOne news = true := by exact rfl) (hbig : (len + nx) * bytes ≤ 140737488355328 := by omega) (hbig2 : len + nx ≤ 140737488355328 := by omega)
    (hsel : Sel Y [H] rest := by repeat (first | exact Sel.nil | (apply Sel.cons; (repeat (first | exact Pick.here | apply Pick.there))))) (hd : d < n := by exact lb rfl) :
    WD Try.prog n R cx ops (.b true :: el) fl (⟨some d, .call ⟨.builtin .append, #[x, y], #[t, t]⟩, ty, pos, af, none⟩ :: l) ρ Y K :=
  WD.prim (app tab_ok ht hi hs ho hH hx hb hn h1 hbig hbig2) hsel hd hk
end Go.Proofs.Ytfajcpnbhnddbaa
namespace Go.Proofs.Ytfajcpnbhnddbaa
open Go Go.Sl Go.IntWalk
set_option maxHeartbeats 8000000
set_option maxRecDepth 20000
theorem split2 {P : Program} {n : Nat} {R : HL} {cx : Cx} {K : List Kont} {ρ : Env} {L M : List HL} {A B : HL} (h : L = (A ++ B) :: M) (hk : W P n R cx K ρ (A :: B :: M)) : W P n R cx K ρ L := by
  subst h
  exact W.regroup (by simp) hk
def ops14 : List Int := [1, 1, 1, 2, 2, 3, 3, 3, 4, 4, 5, 6, 7, 8]
def gop (x : Int) : Int := ops14.getD (around x 14).toNat 0
def gq (q : Rq) (n : Int) : Rq := ⟨gop q.op, if gop q.op ≠ 6 ∧ gop q.op ≠ 8 then around q.page n else 0, if gop q.op = 2 ∨ gop q.op = 3 then around q.off 33 else 0,
  if gop q.op = 2 then around q.len (33 - around q.off 33) else 0, if gop q.op = 3 then (fill q.data (around q.len 33).toNat).take (32 - around q.off 33).toNat else []⟩
theorem gop_cases (x : Int) : gop x = 1 ∨ gop x = 2 ∨ gop x = 3 ∨ gop x = 4 ∨ gop x = 5 ∨ gop x = 6 ∨ gop x = 7 ∨ gop x = 8 := by
  have h := around_range x 14 (by decide)
  unfold gop
  obtain ⟨k, hk⟩ : ∃ k : Nat, around x 14 = (k : Int) := ⟨(around x 14).toNat, by omega⟩
  rw [hk, Int.toNat_natCast]
  have hk2 : k < 14 := by omega
  match k, hk2 with
  | 0, _ => decide
  | 1, _ => decide
  | 2, _ => decide
  | 3, _ => decide
  | 4, _ => decide
  | 5, _ => decide
  | 6, _ => decide
  | 7, _ => decide
  | 8, _ => decide
  | 9, _ => decide
  | 10, _ => decide
  | 11, _ => decide
  | 12, _ => decide
  | 13, _ => decide
structure Rq.Ok (q : Rq) : Prop where
  op : 1 ≤ q.op ∧ q.op ≤ 8
  page : 0 ≤ q.page
  off : i64s q.off
  len : i64s q.len
  u8 : u8ok q.data
  dl : q.data.length ≤ 1000000
theorem gq_ok (q : Rq) (n : Int) (hn : 0 < n) (hu : u8ok q.data) : (gq q n).Ok := by
  have h0 := around_range q.off 33 (by decide)
  have h1 := around_range q.page n hn
  have h2 := around_range q.len 33 (by decide)
  have h3 := around_range q.len (33 - around q.off 33) (by omega)
  have h4 := gop_cases q.op
  refine ⟨by simp only [gq]; omega, ?_, ?_, ?_, ?_, ?_⟩
  · simp only [gq]; split <;> omega
  · simp only [gq, i64s]; split <;> omega
  · simp only [gq, i64s]; split <;> omega
  · simp only [gq]
    split
    · exact fun b hb => fill_ok hu _ b (List.mem_of_mem_take hb)
    · intro b hb; cases hb
  · simp only [gq]
    split
    · rw [List.length_take, fill_len]; omega
    · simp
def wStep (m : Mc) (p : Pt) (q : Rq) (f : Bool) : Mc × Pt := if m.todo = [] then ((mBegin m p q).1, (mBegin m p q).2.1) else ((mEnd m p (if f then 9 else 0) (fill q.data 16)).1, (mEnd m p (if f then 9 else 0) (fill q.data 16)).2.1)
theorem wStep_inv {m : Mc} {p : Pt} (h : MInv m p) {q : Rq} (hq : q.Ok) (f : Bool) : MInv (wStep m p q f).1 (wStep m p q f).2 := by
  unfold wStep
  split
  · rename_i ht
    exact begin_inv h ht hq.op.1 hq.op.2 hq.u8
  · rename_i ht
    exact end_inv h ht _ (fill_ok hq.u8 16) (fill_len _ _)
theorem mEnd_data (m : Mc) (p : Pt) (e : Int) (bs : List Int) : (mEnd m p e bs).2.2.data = [] := by
  unfold mEnd
  split
  · rfl
  · split <;> rfl
end Go.Proofs.Ytfajcpnbhnddbaa
namespace Go.Proofs.Ytfajcpnbhnddbaa
open Go Go.Sl Go.IntWalk
set_option maxHeartbeats 4000000
set_option maxRecDepth 20000
set_option linter.unusedVariables false
theorem roOwn (b : Nat) (bs : List Int) (e : Nat) : RoSl 1 (u8s bs) (some ⟨b, 0, none⟩) bs.length [(b, .cells (u8s bs).toArray e (0, 0))] :=
  ⟨by rw [u8s_len, Nat.mul_one], .inr ⟨b, 0, u8s bs, e, (0, 0), rfl, rfl, by rw [u8s_len]; omega, by rw [List.drop_zero, Nat.mul_one, ← u8s_len bs, List.take_length]⟩⟩
theorem Clone0_spec (cap : Nat) : Ctr Try.prog 35 [.slice none 0 cap] [] [] (fun v L' => v = .slice none 0 0 ∧ L' = []) := by
  refine Ctr.enter (n := 8) [.tmp 2] [(0, _)] Try.func35 rfl rfl rfl (lb rfl) Try.call35 ⟨rfl, trivial⟩ ?_
  intro cx fin fin0
  refine aG ?_
  refine aV (OpVal.eqNilSl tab_ok rfl rfl rfl) ?_
  refine aT ?_ (hb := by rfl)
  refine W.ret (fin _ _ (FinOk.first 0 (.tmp rfl .nil) rfl ?_))
  exact ⟨rfl, rfl⟩
theorem BClone_spec (bs : List Int) (hl : bs.length ≤ 1000000) (a : Option Addr) (cap : Nat) (ro : HL) (hro : RoSl 1 (u8s bs) a bs.length ro) :
    Ctr Try.prog 35 [.slice a bs.length cap] [] ro (fun v L' => ∃ a' cap' H, v = .slice a' bs.length cap' ∧ L' = [H] ∧ Own 1 5 (u8s bs) a' bs.length cap' H) := by
  refine Ctr.enter (n := 8) [.tmp 2] [(0, _)] Try.func35 rfl rfl rfl (lb rfl) Try.call35 ⟨rfl, trivial⟩ ?_
  intro cx fin fin0
  refine aG ?_
  refine aV (OpVal.eqNilSl tab_ok rfl rfl rfl) ?_
  cases a with
  | none =>
    have h0 : bs = [] := by
      rcases hro.2 with ⟨h, -⟩ | ⟨_, _, _, _, _, h, _⟩
      · exact List.eq_nil_of_length_eq_zero h
      · cases h
    subst h0
    refine aT ?_ (hb := by rfl)
    refine W.nilChunk ?_
    refine W.ret (fin _ _ (FinOk.first 1 (.tmp rfl .nil) rfl ?_))
    exact ⟨_, _, _, rfl, rfl, Own.nil 1 _⟩
  | some ad =>
    refine aF ?_ (hb := by rfl)
    refine aSl (ps := []) ?_
    intro b5
    refine aG ?_
    have how : Own 1 5 (u8s []) (some ⟨b5, 0, none⟩) ([] : List Int).length 0 [(b5, .cells #[] 5 (0, 0))] := ⟨rfl, .inr ⟨b5, [], rfl, rfl, Nat.le_refl _, rfl, rfl⟩⟩
    refine aPr (appU8 tab_ok rfl rfl rfl how (by intro p hp; simp [hp]) rfl hro (fun q hq => .inr hq) (by simp; omega) (by simp; omega)) ?_
    rintro _ _ ⟨a2, c2, H2, rfl, rfl, ho⟩
    refine aG ?_
    rw [List.nil_append] at ho
    repeat (first | refine gx ?_ | refine gN fun _ => ?_ | refine gB fun _ => ?_ | fail)
    refine W.ret (fin _ _ (FinOk.first 1 (.tmp rfl .nil) rfl ?_))
    exact ⟨_, _, _, rfl, rfl, ho⟩
theorem BEqual_spec (x y : List Int) (hx : u8ok x) (hy : u8ok y) (a : Option Addr) (cap : Nat) (r1 : HL) (h1 : RoSl 1 (u8s x) a x.length r1) (b : Option Addr) (cb : Nat) (r2 : HL) (h2 : RoSl 1 (u8s y) b y.length r2) :
    Ctr Try.prog 47 [.slice a x.length cap, .slice b y.length cb] [] (r1 ++ r2) (fun v L' => v = .bool (decide (x = y)) ∧ L' = []) := by
  refine Ctr.enter (n := 10) [.tmp 4] [(0, _), (1, _)] Try.func47 rfl rfl rfl (lb rfl) Try.call47 ⟨rfl, rfl, trivial⟩ ?_
  intro cx fin fin0
  refine aG ?_
  refine aV (OpVal.bytesStr tab_ok rfl rfl rfl rfl h1 (fun q hq => .inr (by simp [hq]))) ?_
  refine aV (OpVal.bytesStr tab_ok rfl rfl rfl rfl h2 (fun q hq => .inr (by simp [hq]))) ?_
  refine aV (OpVal.eqStr rfl rfl) ?_
  rw [bstr_eq hx hy]
  refine W.ret (fin _ _ (FinOk.first 0 (.tmp rfl .nil) rfl ?_))
  exact ⟨rfl, rfl⟩
end Go.Proofs.Ytfajcpnbhnddbaa
namespace Go.Proofs.Ytfajcpnbhnddbaa
open Go Go.Sl Go.IntWalk
set_option maxHeartbeats 8000000
set_option maxRecDepth 20000
set_option linter.unusedVariables false
def rnamed (q : Rq) : Rq :=
  if q.op = 1 ∨ q.op = 4 ∨ q.op = 5 ∨ q.op = 7 then ⟨q.op, q.page, 0, 0, []⟩ else if q.op = 2 then ⟨q.op, q.page, q.off, q.len, []⟩ else if q.op = 3 then ⟨q.op, q.page, q.off, 0, q.data⟩ else ⟨q.op, 0, 0, 0, []⟩
def rcheck (q : Rq) (pages : Int) : Int :=
  if ¬ (1 ≤ q.op ∧ q.op ≤ 8) ∨ q ≠ rnamed q then 2 else if q.op ≠ 6 ∧ q.op ≠ 8 ∧ (q.page < 0 ∨ pages ≤ q.page) then 4
  else if q.off < 0 ∨ 32 < q.off ∨ q.len < 0 ∨ 32 - q.off < q.len ∨ 32 - q.off < (q.data.length : Int) then 4 else 0
def rnames : List ByteArray := [⟨#[]⟩, ⟨#[102, 101, 116, 99, 104]⟩, ⟨#[114, 101, 97, 100]⟩, ⟨#[119, 114, 105, 116, 101]⟩, ⟨#[117, 110, 112, 105, 110]⟩, ⟨#[102, 108, 117, 115, 104]⟩, ⟨#[102, 108, 117, 115, 104, 97, 108, 108]⟩, ⟨#[100, 105, 115, 99, 97, 114, 100]⟩, ⟨#[115, 116, 97, 116, 115]⟩]
theorem RName_no (k : Int) (h : k < 0 ∨ 9 ≤ k) : Ctr Try.prog 31 [.int .i64 k] [] [] (fun v L' => v = .string ⟨#[]⟩ ∧ L' = []) := by
  refine Ctr.enter (n := 12) [.tmp 2] [(0, _)] Try.func31 rfl rfl rfl (lb rfl) Try.call31 ⟨rfl, trivial⟩ ?_
  intro cx fin fin0
  refine aG ?_
  rcases Classical.em (k < 0) with h1 | h1
  · repeat (first | refine gh h1 ?_ | refine gN fun _ => ?_ | refine gB fun _ => ?_ | fail)
    refine W.ret (fin _ _ (FinOk.first 0 (.tmp rfl .nil) rfl ?_))
    exact ⟨rfl, rfl⟩
  · have h2 : k ≥ 9 := by omega
    repeat (first | refine gh (gc2 h1 h2) ?_ | refine gN fun _ => ?_ | refine gB fun _ => ?_ | fail)
    refine W.ret (fin _ _ (FinOk.first 0 (.tmp rfl .nil) rfl ?_))
    exact ⟨rfl, rfl⟩
theorem Names_spec : Ctr Try.prog 46 [] [] [] (fun v L' => v = .agg (rnames.map Value.string).toArray ∧ L' = []) := by
  refine Ctr.enter (n := 2) [.cell 0 113] [] Try.func46 rfl rfl rfl (lb rfl) Try.call46 trivial ?_
  intro cx fin fin0
  refine aG ?_
  repeat (first | refine gx ?_ | refine gN fun _ => ?_ | refine gB fun _ => ?_ | fail)
  refine aBu (ps := [_, _, _, _, _, _, _, _, _]) ?_
  repeat (first | refine gx ?_ | refine gN fun _ => ?_ | refine gB fun _ => ?_ | fail)
  refine W.ret (fin _ _ (FinOk.first 0 (aRc .nil) rfl ?_))
  exact ⟨rfl, rfl⟩
theorem RName_spec (j : Nat) (h : j < 9) : Ctr Try.prog 31 [.int .i64 (j : Int)] [] [] (fun v L' => v = .string (rnames.getD j ⟨#[]⟩) ∧ L' = []) := by
  have h1 : ¬ ((j : Int) < 0) := by omega
  have h2 : ¬ ((j : Int) ≥ 9) := by omega
  have hk : j = 0 ∨ j = 1 ∨ j = 2 ∨ j = 3 ∨ j = 4 ∨ j = 5 ∨ j = 6 ∨ j = 7 ∨ j = 8 := by omega
  refine Ctr.enter (n := 12) [.tmp 2] [(0, _)] Try.func31 rfl rfl rfl (lb rfl) Try.call31 ⟨rfl, trivial⟩ ?_
  intro cx fin fin0
  refine aG ?_
  repeat (first | refine gh (gc2 h1 h2) ?_ | refine gN fun _ => ?_ | refine gB fun _ => ?_ | fail)
  refine aC (o := Names_spec) (h := ?_)
  rintro _ _ ⟨rfl, rfl⟩
  refine aG ?_
  rcases hk with rfl | rfl | rfl | rfl | rfl | rfl | rfl | rfl | rfl
  all_goals
    refine aV (OpVal.ix1 tab_ok rfl rfl rfl rfl rfl (by decide) rfl) ?_
    refine W.ret (fin _ _ (FinOk.first 0 (.tmp rfl .nil) rfl ?_))
    exact ⟨rfl, rfl⟩
theorem Same_spec (a b : Rq) (hua : u8ok a.data) (hub : u8ok b.data) (aa : Option Addr) (ca : Nat) (ra : HL) (hra : RoSl 1 (u8s a.data) aa a.data.length ra) (ab : Option Addr) (cb : Nat) (rb : HL) (hrb : RoSl 1 (u8s b.data) ab b.data.length rb) :
    Ctr Try.prog 32 [a.v aa ca, b.v ab cb] [] (ra ++ rb) (fun v L' => v = .bool (decide (a = b)) ∧ L' = []) := by
  have hE := BEqual_spec a.data b.data hua hub aa ca ra hra ab cb rb hrb
  obtain ⟨o1, p1, f1, l1, d1⟩ := a
  obtain ⟨o2, p2, f2, l2, d2⟩ := b
  simp only at *
  refine Ctr.enter (n := 38) [.tmp 4] [(0, _), (1, _)] Try.func32 rfl rfl rfl (lb rfl) Try.call32 ⟨rfl, rfl, trivial⟩ ?_
  intro cx fin fin0
  refine aG ?_
  rcases Classical.em (o1 = o2) with h1 | h1
  · rcases Classical.em (p1 = p2) with h2 | h2
    · rcases Classical.em (f1 = f2) with h3 | h3
      · rcases Classical.em (l1 = l2) with h4 | h4
        · subst h1 h2 h3 h4
          repeat (first | refine gx ?_ | refine gN fun _ => ?_ | refine gB fun _ => ?_ | fail)
          refine aC (o := hE) (h := ?_) (hro := RoIn.same)
          rintro _ _ ⟨rfl, rfl⟩
          refine aG ?_
          repeat (first | refine gx ?_ | refine gN fun _ => ?_ | refine gB fun _ => ?_ | fail)
          refine W.ret (fin _ _ (FinOk.first 0 (.tmp rfl .nil) rfl ?_))
          exact ⟨by simp [pack], rfl⟩
        · repeat (first | refine gh (gc4 h1 h2 h3 h4) ?_ | refine gN fun _ => ?_ | refine gB fun _ => ?_ | fail)
          refine W.ret (fin _ _ (FinOk.first 0 (.tmp rfl .nil) rfl ?_))
          exact ⟨by simp [pack, h4], rfl⟩
      · repeat (first | refine gh (gc3 h1 h2 h3) ?_ | refine gN fun _ => ?_ | refine gB fun _ => ?_ | fail)
        refine W.ret (fin _ _ (FinOk.first 0 (.tmp rfl .nil) rfl ?_))
        exact ⟨by simp [pack, h3], rfl⟩
    · repeat (first | refine gh (gc2 h1 h2) ?_ | refine gN fun _ => ?_ | refine gB fun _ => ?_ | fail)
      refine W.ret (fin _ _ (FinOk.first 0 (.tmp rfl .nil) rfl ?_))
      exact ⟨by simp [pack, h2], rfl⟩
  · repeat (first | refine gh h1 ?_ | refine gN fun _ => ?_ | refine gB fun _ => ?_ | fail)
    refine W.ret (fin _ _ (FinOk.first 0 (.tmp rfl .nil) rfl ?_))
    exact ⟨by simp [pack, h1], rfl⟩
theorem RClone_spec (q : Rq) (hl : q.data.length ≤ 1000000) (a : Option Addr) (c : Nat) (ro : HL) (hro : RoSl 1 (u8s q.data) a q.data.length ro) :
    Ctr Try.prog 25 [q.v a c] [] ro (fun v L' => ∃ a' c' H, v = q.v a' c' ∧ L' = [H] ∧ RoSl 1 (u8s q.data) a' q.data.length H) := by
  have hC := BClone_spec q.data hl a c ro hro
  obtain ⟨o1, p1, f1, l1, d1⟩ := q
  simp only at *
  refine Ctr.enter (n := 8) [.cell 2 41] [(0, _)] Try.func25 rfl rfl rfl (lb rfl) Try.call25 ⟨rfl, trivial⟩ ?_
  intro cx fin fin0
  refine aG ?_
  repeat (first | refine gx ?_ | refine gN fun _ => ?_ | refine gB fun _ => ?_ | fail)
  refine aC (o := hC) (h := ?_) (hro := RoIn.same)
  rintro _ _ ⟨a2, c2, H, rfl, rfl, ho⟩
  refine aG ?_
  repeat (first | refine gx ?_ | refine gN fun _ => ?_ | refine gB fun _ => ?_ | fail)
  refine W.ret (fin _ _ (FinOk.first 1 (aRc .nil) rfl ?_))
  exact ⟨a2, c2, _, rfl, rfl, Own.roSl ho⟩
theorem Nm1_spec (q : Rq) (a : Option Addr) (c : Nat) : Ctr Try.prog 48 [q.v a c] [] [] (fun v L' => v = (⟨q.op, q.page, 0, 0, []⟩ : Rq).v none 0 ∧ L' = []) := by
  obtain ⟨o1, p1, f1, l1, d1⟩ := q
  refine Ctr.enter (n := 8) [.cell 2 41] [(0, _)] Try.func48 rfl rfl rfl (lb rfl) Try.call48 ⟨rfl, trivial⟩ ?_
  intro cx fin fin0
  refine aG ?_
  repeat (first | refine gx ?_ | refine gN fun _ => ?_ | refine gB fun _ => ?_ | fail)
  refine aBu (ps := [_, _]) ?_
  repeat (first | refine gx ?_ | refine gN fun _ => ?_ | refine gB fun _ => ?_ | fail)
  refine W.ret (fin _ _ (FinOk.first 0 (aRc .nil) rfl ?_))
  exact ⟨rfl, rfl⟩
theorem Nm2_spec (q : Rq) (a : Option Addr) (c : Nat) : Ctr Try.prog 49 [q.v a c] [] [] (fun v L' => v = (⟨q.op, 0, 0, 0, []⟩ : Rq).v none 0 ∧ L' = []) := by
  obtain ⟨o1, p1, f1, l1, d1⟩ := q
  refine Ctr.enter (n := 6) [.cell 2 41] [(0, _)] Try.func49 rfl rfl rfl (lb rfl) Try.call49 ⟨rfl, trivial⟩ ?_
  intro cx fin fin0
  refine aG ?_
  repeat (first | refine gx ?_ | refine gN fun _ => ?_ | refine gB fun _ => ?_ | fail)
  refine aBu (ps := [_]) ?_
  repeat (first | refine gx ?_ | refine gN fun _ => ?_ | refine gB fun _ => ?_ | fail)
  refine W.ret (fin _ _ (FinOk.first 0 (aRc .nil) rfl ?_))
  exact ⟨rfl, rfl⟩
theorem Nm3_spec (q : Rq) (a : Option Addr) (c : Nat) : Ctr Try.prog 50 [q.v a c] [] [] (fun v L' => v = (⟨q.op, q.page, q.off, q.len, []⟩ : Rq).v none 0 ∧ L' = []) := by
  obtain ⟨o1, p1, f1, l1, d1⟩ := q
  refine Ctr.enter (n := 12) [.cell 2 41] [(0, _)] Try.func50 rfl rfl rfl (lb rfl) Try.call50 ⟨rfl, trivial⟩ ?_
  intro cx fin fin0
  refine aG ?_
  repeat (first | refine gx ?_ | refine gN fun _ => ?_ | refine gB fun _ => ?_ | fail)
  refine aBu (ps := [_, _, _, _]) ?_
  repeat (first | refine gx ?_ | refine gN fun _ => ?_ | refine gB fun _ => ?_ | fail)
  refine W.ret (fin _ _ (FinOk.first 0 (aRc .nil) rfl ?_))
  exact ⟨rfl, rfl⟩
theorem Nm4_spec (q : Rq) (a : Option Addr) (c : Nat) : Ctr Try.prog 51 [q.v a c] [] [] (fun v L' => v = (⟨q.op, q.page, q.off, 0, q.data⟩ : Rq).v a c ∧ L' = []) := by
  obtain ⟨o1, p1, f1, l1, d1⟩ := q
  refine Ctr.enter (n := 12) [.cell 2 41] [(0, _)] Try.func51 rfl rfl rfl (lb rfl) Try.call51 ⟨rfl, trivial⟩ ?_
  intro cx fin fin0
  refine aG ?_
  repeat (first | refine gx ?_ | refine gN fun _ => ?_ | refine gB fun _ => ?_ | fail)
  refine aBu (ps := [_, _, _, _]) ?_
  repeat (first | refine gx ?_ | refine gN fun _ => ?_ | refine gB fun _ => ?_ | fail)
  refine W.ret (fin _ _ (FinOk.first 0 (aRc .nil) rfl ?_))
  exact ⟨rfl, rfl⟩
def fns (f : Nat) : Value := .func (.func f) #[] #[]
theorem Nmd_spec : Ctr Try.prog 33 [] [] [] (fun v L' => v = .agg #[fns 49, fns 48, fns 50, fns 51, fns 48, fns 48, fns 49, fns 48, fns 49] ∧ L' = []) := by
  refine Ctr.enter (n := 15) [.cell 0 97] [] Try.func33 rfl rfl rfl (lb rfl) Try.call33 trivial ?_
  intro cx fin fin0
  refine aG ?_
  repeat (first | refine gx ?_ | refine gN fun _ => ?_ | refine gB fun _ => ?_ | fail)
  refine aBu (ps := [_, _, _, _, _, _, _, _, _]) ?_
  repeat (first | refine gx ?_ | refine gN fun _ => ?_ | refine gB fun _ => ?_ | fail)
  refine W.ret (fin _ _ (FinOk.first 0 (aRc .nil) rfl ?_))
  exact ⟨rfl, rfl⟩
def fnl : List Value := [fns 49, fns 48, fns 50, fns 51, fns 48, fns 48, fns 49, fns 48, fns 49]
theorem Check_go (j f : Nat) (hj1 : 1 ≤ j) (hj8 : j ≤ 8) (hf : fnl[j]? = some (fns f)) (hfi : Try.prog.inits.idxOf? f = none) (hnn : ((rnames.getD j ⟨#[]⟩).toList == (⟨#[]⟩ : ByteArray).toList) = false) (q q' : Rq) (hq : q.op = (j : Int)) (hq' : rnamed q = q') (hl : q.data.length ≤ 1000000) (pages : Int) (a : Option Addr) (c : Nat) (a' : Option Addr) (c' : Nat) (ro : HL) (hoi : i64s q.off)
    (hC : Ctr Try.prog f [q.v a c] [] [] (fun v L' => v = q'.v a' c' ∧ L' = [])) (hS : Ctr Try.prog 32 [q.v a c, q'.v a' c'] [] ro (fun v L' => v = .bool (decide (q = q')) ∧ L' = [])) :
    Ctr Try.prog 23 [q.v a c, .int .i64 pages] [] ro (fun v L' => v = .int .i64 (rcheck q pages) ∧ L' = []) := by
  have hN := RName_spec j (by omega)
  have hM := Nmd_spec
  have hrc : rcheck q pages = rcheck q pages := rfl
  conv at hrc => rhs; unfold rcheck
  rw [hq'] at hrc
  have hop : ¬ ¬ (1 ≤ q.op ∧ q.op ≤ 8) := by omega
  generalize rcheck q pages = out at *
  obtain ⟨o1, p1, f1, l1, d1⟩ := q
  simp only at *
  subst hq
  rw [show (⟨(j : Int), p1, f1, l1, d1⟩ : Rq).v a c = .agg #[.int .i64 (j : Int), .int .i64 p1, .int .i64 f1, .int .i64 l1, .slice a d1.length c] from rfl]
  refine Ctr.enter (n := 69) [.tmp 4] [(0, _), (1, _)] Try.func23 rfl rfl rfl (lb rfl) Try.call23 ⟨rfl, rfl, trivial⟩ ?_
  intro cx fin fin0
  refine aG ?_
  repeat (first | refine gx ?_ | refine gN fun _ => ?_ | refine gB fun _ => ?_ | fail)
  refine W.draw follows (by decide +kernel) (zG ?_)
  repeat (first | refine zL ?_ | (first | refine zGo ?_ | refine zSk ?_ | refine zUn ?_ | fail) | (first | refine zPT ?_ | refine zPF ?_ | fail) | refine zV (OpVal.add rfl rfl (i64_in _ (by omega))) ?_ | refine zV (OpVal.sub rfl rfl (i64_in _ (by omega))) ?_ | refine zV (OpVal.neBool tab_ok rfl rfl rfl) ?_ | refine zV (OpVal.eqBool tab_ok rfl rfl rfl) ?_ | refine zV (OpVal.eqNil tab_ok rfl rfl rfl) ?_ | refine zV (OpVal.neNil tab_ok rfl rfl rfl) ?_ | fail)
  refine zC (o := hN) (h := ?_)
  refine zV (OpVal.eqStr rfl rfl) ?_
  repeat (first | refine zL ?_ | (first | refine zGo ?_ | refine zSk ?_ | refine zUn ?_ | refine zGo ?_ (hw := by exact gd hnn) | refine zSk ?_ (hw := by exact gd hnn) | fail) | (first | refine zPT ?_ | refine zPF ?_ | refine zPT ?_ (hb := by exact gd hnn) | refine zPF ?_ (hb := by exact gd hnn) | fail) | refine zV (OpVal.add rfl rfl (i64_in _ (by omega))) ?_ | refine zV (OpVal.sub rfl rfl (i64_in _ (by omega))) ?_ | refine zV (OpVal.neBool tab_ok rfl rfl rfl) ?_ | refine zV (OpVal.eqBool tab_ok rfl rfl rfl) ?_ | refine zV (OpVal.eqNil tab_ok rfl rfl rfl) ?_ | refine zV (OpVal.neNil tab_ok rfl rfl rfl) ?_ | fail)
  refine zC (o := hM) (h := ?_)
  repeat (first | refine zL ?_ | (first | refine zGo ?_ | refine zSk ?_ | refine zUn ?_ | refine zGo ?_ (hw := by exact gd hnn) | refine zSk ?_ (hw := by exact gd hnn) | fail) | (first | refine zPT ?_ | refine zPF ?_ | refine zPT ?_ (hb := by exact gd hnn) | refine zPF ?_ (hb := by exact gd hnn) | fail) | refine zV (OpVal.add rfl rfl (i64_in _ (by omega))) ?_ | refine zV (OpVal.sub rfl rfl (i64_in _ (by omega))) ?_ | refine zV (OpVal.neBool tab_ok rfl rfl rfl) ?_ | refine zV (OpVal.eqBool tab_ok rfl rfl rfl) ?_ | refine zV (OpVal.eqNil tab_ok rfl rfl rfl) ?_ | refine zV (OpVal.neNil tab_ok rfl rfl rfl) ?_ | fail)
  refine zV (OpVal.ix1 (l := fnl) tab_ok rfl rfl rfl rfl rfl (show j < 9 by omega) hf) ?_
  repeat (first | refine zL ?_ | (first | refine zGo ?_ | refine zSk ?_ | refine zUn ?_ | refine zGo ?_ (hw := by exact gd hnn) | refine zSk ?_ (hw := by exact gd hnn) | fail) | (first | refine zPT ?_ | refine zPF ?_ | refine zPT ?_ (hb := by exact gd hnn) | refine zPF ?_ (hb := by exact gd hnn) | fail) | refine zV (OpVal.add rfl rfl (i64_in _ (by omega))) ?_ | refine zV (OpVal.sub rfl rfl (i64_in _ (by omega))) ?_ | refine zV (OpVal.neBool tab_ok rfl rfl rfl) ?_ | refine zV (OpVal.eqBool tab_ok rfl rfl rfl) ?_ | refine zV (OpVal.eqNil tab_ok rfl rfl rfl) ?_ | refine zV (OpVal.neNil tab_ok rfl rfl rfl) ?_ | fail)
  refine zC (o := hC) (h := ?_) (hro := RoIn.nil)
  repeat (first | refine zL ?_ | (first | refine zGo ?_ | refine zSk ?_ | refine zUn ?_ | refine zGo ?_ (hw := by exact gd hnn) | refine zSk ?_ (hw := by exact gd hnn) | fail) | (first | refine zPT ?_ | refine zPF ?_ | refine zPT ?_ (hb := by exact gd hnn) | refine zPF ?_ (hb := by exact gd hnn) | fail) | refine zV (OpVal.add rfl rfl (i64_in _ (by omega))) ?_ | refine zV (OpVal.sub rfl rfl (i64_in _ (by omega))) ?_ | refine zV (OpVal.neBool tab_ok rfl rfl rfl) ?_ | refine zV (OpVal.eqBool tab_ok rfl rfl rfl) ?_ | refine zV (OpVal.eqNil tab_ok rfl rfl rfl) ?_ | refine zV (OpVal.neNil tab_ok rfl rfl rfl) ?_ | fail)
  refine zC (o := hS) (h := ?_) (hro := RoIn.same)
  repeat (first | refine zL ?_ | (first | refine zGo ?_ | refine zSk ?_ | refine zUn ?_ | refine zGo ?_ (hw := by exact gd hnn) | refine zSk ?_ (hw := by exact gd hnn) | fail) | (first | refine zPT ?_ | refine zPF ?_ | refine zPT ?_ (hb := by exact gd hnn) | refine zPF ?_ (hb := by exact gd hnn) | fail) | refine zV (OpVal.add rfl rfl (i64_in _ (by omega))) ?_ | refine zV (OpVal.sub rfl rfl (i64_in _ (by omega))) ?_ | refine zV (OpVal.neBool tab_ok rfl rfl rfl) ?_ | refine zV (OpVal.eqBool tab_ok rfl rfl rfl) ?_ | refine zV (OpVal.eqNil tab_ok rfl rfl rfl) ?_ | refine zV (OpVal.neNil tab_ok rfl rfl rfl) ?_ | fail)
  refine WZ.nil (aG ?_)
  rcases Classical.em ((⟨(j : Int), p1, f1, l1, d1⟩ : Rq) = q') with hs | hs
  case' inr =>
    rw [if_pos (.inr hs)] at hrc
    subst hrc
    repeat (first | refine gh hs ?_ | refine gN fun _ => ?_ | refine gB fun _ => ?_ | fail)
    refine W.ret (fin _ _ (FinOk.first 0 (.tmp rfl .nil) rfl ?_))
    exact ⟨rfl, rfl⟩
  rw [if_neg (by simp [hs]; omega)] at hrc
  repeat (first | refine gh hs ?_ | refine gN fun _ => ?_ | refine gB fun _ => ?_ | fail)
  rcases (show (¬ (j : Int) = 6 ∧ ¬ (j : Int) = 8 ∧ p1 < 0) ∨ (¬ (j : Int) = 6 ∧ ¬ (j : Int) = 8 ∧ ¬ p1 < 0 ∧ p1 ≥ pages) ∨ ((j : Int) = 6) ∨ (¬ (j : Int) = 6 ∧ (j : Int) = 8) ∨ (¬ (j : Int) = 6 ∧ ¬ (j : Int) = 8 ∧ ¬ p1 < 0 ∧ ¬ p1 ≥ pages) by omega) with ⟨h1, h2, h3⟩ | ⟨h1, h2, h3, h4⟩ | h1 | ⟨h1, h2⟩ | ⟨h1, h2, h3, h4⟩
  case' inl.inl =>
    rw [if_pos ⟨h1, h2, .inl h3⟩] at hrc
    subst hrc
    repeat (first | refine gh (gc3 h1 h2 h3) ?_ | refine gN fun _ => ?_ | refine gB fun _ => ?_ | fail)
    refine W.ret (fin _ _ (FinOk.first 0 (.tmp rfl .nil) rfl ?_))
    exact ⟨rfl, rfl⟩
  case' inl.inr.inl =>
    rw [if_pos ⟨h1, h2, .inr h4⟩] at hrc
    subst hrc
    repeat (first | refine gh (gc4 h1 h2 h3 h4) ?_ | refine gN fun _ => ?_ | refine gB fun _ => ?_ | fail)
    refine W.ret (fin _ _ (FinOk.first 0 (.tmp rfl .nil) rfl ?_))
    exact ⟨rfl, rfl⟩
  case' inl.inr.inr.inl =>
    repeat (first | refine gh h1 ?_ | refine gN fun _ => ?_ | refine gB fun _ => ?_ | fail)
  case' inl.inr.inr.inr.inl =>
    repeat (first | refine gh (gc2 h1 h2) ?_ | refine gN fun _ => ?_ | refine gB fun _ => ?_ | fail)
  case' inl.inr.inr.inr.inr =>
    repeat (first | refine gh (gc4 h1 h2 h3 h4) ?_ | refine gN fun _ => ?_ | refine gB fun _ => ?_ | fail)
  all_goals
    rw [if_neg (by omega)] at hrc
    unfold i64s at hoi
    rcases (show f1 < 0 ∨ (¬ f1 < 0 ∧ f1 > 32) ∨ (¬ f1 < 0 ∧ ¬ f1 > 32 ∧ l1 < 0) ∨ (¬ f1 < 0 ∧ ¬ f1 > 32 ∧ ¬ l1 < 0 ∧ l1 > 32 - f1) ∨ (¬ f1 < 0 ∧ ¬ f1 > 32 ∧ ¬ l1 < 0 ∧ ¬ l1 > 32 - f1 ∧ (d1.length : Int) > 32 - f1) ∨ (¬ f1 < 0 ∧ ¬ f1 > 32 ∧ ¬ l1 < 0 ∧ ¬ l1 > 32 - f1 ∧ ¬ (d1.length : Int) > 32 - f1) by omega) with k1 | ⟨k1, k2⟩ | ⟨k1, k2, k3⟩ | ⟨k1, k2, k3, k4⟩ | ⟨k1, k2, k3, k4, k5⟩ | ⟨k1, k2, k3, k4, k5⟩
    · rw [if_pos (by omega)] at hrc
      subst hrc
      repeat (first | refine gh k1 ?_ | refine gN fun _ => ?_ | refine gB fun _ => ?_ | fail)
      refine W.ret (fin _ _ (FinOk.first 0 (.tmp rfl .nil) rfl ?_))
      exact ⟨rfl, rfl⟩
    · rw [if_pos (by omega)] at hrc
      subst hrc
      repeat (first | refine gh (gc2 k1 k2) ?_ | refine gN fun _ => ?_ | refine gB fun _ => ?_ | fail)
      refine W.ret (fin _ _ (FinOk.first 0 (.tmp rfl .nil) rfl ?_))
      exact ⟨rfl, rfl⟩
    · rw [if_pos (by omega)] at hrc
      subst hrc
      repeat (first | refine gh (gc3 k1 k2 k3) ?_ | refine gN fun _ => ?_ | refine gB fun _ => ?_ | fail)
      refine W.ret (fin _ _ (FinOk.first 0 (.tmp rfl .nil) rfl ?_))
      exact ⟨rfl, rfl⟩
    · rw [if_pos (by omega)] at hrc
      subst hrc
      repeat (first | refine gh (gc4 k1 k2 k3 k4) ?_ | refine gN fun _ => ?_ | refine gB fun _ => ?_ | fail)
      refine W.ret (fin _ _ (FinOk.first 0 (.tmp rfl .nil) rfl ?_))
      exact ⟨rfl, rfl⟩
    · rw [if_pos (by omega)] at hrc
      subst hrc
      repeat (first | refine gh (gc5 k1 k2 k3 k4 k5) ?_ | refine gN fun _ => ?_ | refine gB fun _ => ?_ | fail)
      refine W.ret (fin _ _ (FinOk.first 0 (.tmp rfl .nil) rfl ?_))
      exact ⟨rfl, rfl⟩
    · rw [if_neg (by omega)] at hrc
      subst hrc
      repeat (first | refine gh (gc5 k1 k2 k3 k4 k5) ?_ | refine gN fun _ => ?_ | refine gB fun _ => ?_ | fail)
      refine W.ret (fin _ _ (FinOk.first 0 (.tmp rfl .nil) rfl ?_))
      exact ⟨rfl, rfl⟩
theorem Check_no (q : Rq) (pages : Int) (h : q.op < 1 ∨ 8 < q.op) (hi : i64s q.op) (a : Option Addr) (c : Nat) : Ctr Try.prog 23 [q.v a c, .int .i64 pages] [] [] (fun v L' => v = .int .i64 (rcheck q pages) ∧ L' = []) := by
  have hrc : rcheck q pages = 2 := by unfold rcheck; rw [if_pos (.inl (by omega))]
  rw [hrc]
  have hN : Ctr Try.prog 31 [.int .i64 q.op] [] [] (fun v L' => v = .string ⟨#[]⟩ ∧ L' = []) := by
    rcases Classical.em (q.op = 0) with h0 | h0
    · rw [h0]; exact RName_spec 0 (by decide)
    · exact RName_no q.op (by omega)
  have hnn : ((⟨#[]⟩ : ByteArray).toList == (⟨#[]⟩ : ByteArray).toList) = true := by decide +kernel
  obtain ⟨o1, p1, f1, l1, d1⟩ := q
  simp only at *
  refine Ctr.enter (n := 69) [.tmp 4] [(0, _), (1, _)] Try.func23 rfl rfl rfl (lb rfl) Try.call23 ⟨rfl, rfl, trivial⟩ ?_
  intro cx fin fin0
  refine aG ?_
  repeat (first | refine gx ?_ | refine gN fun _ => ?_ | refine gB fun _ => ?_ | fail)
  refine W.draw follows (by decide +kernel) (zG ?_)
  repeat (first | refine zL ?_ | (first | refine zGo ?_ | refine zSk ?_ | refine zUn ?_ | fail) | (first | refine zPT ?_ | refine zPF ?_ | fail) | refine zV (OpVal.add rfl rfl (i64_in _ (by omega))) ?_ | refine zV (OpVal.sub rfl rfl (i64_in _ (by omega))) ?_ | refine zV (OpVal.neBool tab_ok rfl rfl rfl) ?_ | refine zV (OpVal.eqBool tab_ok rfl rfl rfl) ?_ | refine zV (OpVal.eqNil tab_ok rfl rfl rfl) ?_ | refine zV (OpVal.neNil tab_ok rfl rfl rfl) ?_ | fail)
  refine zC (o := hN) (h := ?_)
  refine zV (OpVal.eqStr rfl rfl) ?_
  repeat (first | refine zL ?_ | (first | refine zGo ?_ | refine zSk ?_ | refine zUn ?_ | refine zGo ?_ (hw := by exact gd hnn) | refine zSk ?_ (hw := by exact gd hnn) | fail) | (first | refine zPT ?_ | refine zPF ?_ | refine zPT ?_ (hb := by exact gd hnn) | refine zPF ?_ (hb := by exact gd hnn) | fail) | refine zV (OpVal.add rfl rfl (i64_in _ (by omega))) ?_ | refine zV (OpVal.sub rfl rfl (i64_in _ (by omega))) ?_ | refine zV (OpVal.neBool tab_ok rfl rfl rfl) ?_ | refine zV (OpVal.eqBool tab_ok rfl rfl rfl) ?_ | refine zV (OpVal.eqNil tab_ok rfl rfl rfl) ?_ | refine zV (OpVal.neNil tab_ok rfl rfl rfl) ?_ | fail)
  refine WZ.nil (aG ?_)
  repeat (first | refine gh hnn ?_ | refine gN fun _ => ?_ | refine gB fun _ => ?_ | fail)
  refine W.ret (fin _ _ (FinOk.first 0 (.tmp rfl .nil) rfl ?_))
  exact ⟨rfl, rfl⟩
theorem Check_spec (q : Rq) (pages : Int) (hu : u8ok q.data) (hl : q.data.length ≤ 1000000) (a : Option Addr) (c : Nat) (ro : HL) (hro : RoSl 1 (u8s q.data) a q.data.length ro) (hoi : i64s q.off) (hi : i64s q.op) :
    Ctr Try.prog 23 [q.v a c, .int .i64 pages] [] ro (fun v L' => v = .int .i64 (rcheck q pages) ∧ L' = []) := by
  have e0 : RoSl 1 (u8s []) none ([] : List Int).length [] := ⟨rfl, .inl ⟨rfl, rfl⟩⟩
  have u0 : u8ok [] := fun b hb => by cases hb
  have nil : ∀ {q' : Rq} {a' c'}, Ctr Try.prog 32 [q.v a c, q'.v a' c'] [] (ro ++ []) (fun v L' => v = .bool (decide (q = q')) ∧ L' = []) → Ctr Try.prog 32 [q.v a c, q'.v a' c'] [] ro (fun v L' => v = .bool (decide (q = q')) ∧ L' = []) := fun h => h.ro (by simp)
  have dbl : ∀ {q' : Rq} {a' c'}, Ctr Try.prog 32 [q.v a c, q'.v a' c'] [] (ro ++ ro) (fun v L' => v = .bool (decide (q = q')) ∧ L' = []) → Ctr Try.prog 32 [q.v a c, q'.v a' c'] [] ro (fun v L' => v = .bool (decide (q = q')) ∧ L' = []) := fun h => h.ro (by simp)
  rcases Classical.em (1 ≤ q.op ∧ q.op ≤ 8) with hop | hop
  case inr => exact (Check_no q pages (by omega) hi a c).ro (fun _ h => by cases h)
  have hS1 := nil (Same_spec q (⟨q.op, q.page, 0, 0, []⟩ : Rq) hu u0 a c ro hro none 0 [] e0)
  have hS2 := nil (Same_spec q (⟨q.op, 0, 0, 0, []⟩ : Rq) hu u0 a c ro hro none 0 [] e0)
  have hS3 := nil (Same_spec q (⟨q.op, q.page, q.off, q.len, []⟩ : Rq) hu u0 a c ro hro none 0 [] e0)
  have hS4 := dbl (Same_spec q (⟨q.op, q.page, q.off, 0, q.data⟩ : Rq) hu hu a c ro hro a c ro hro)
  have hk : q.op = ((1 : Nat) : Int) ∨ q.op = ((2 : Nat) : Int) ∨ q.op = ((3 : Nat) : Int) ∨ q.op = ((4 : Nat) : Int) ∨ q.op = ((5 : Nat) : Int) ∨ q.op = ((6 : Nat) : Int) ∨ q.op = ((7 : Nat) : Int) ∨ q.op = ((8 : Nat) : Int) := by omega
  rcases hk with h | h | h | h | h | h | h | h
  · exact Check_go 1 _ (by decide) (by decide) rfl (by kernel_rfl) (by decide +kernel) q _ h (by unfold rnamed; rw [h]; rfl) hl pages a c _ _ ro hoi (Nm1_spec q a c) hS1
  · exact Check_go 2 _ (by decide) (by decide) rfl (by kernel_rfl) (by decide +kernel) q _ h (by unfold rnamed; rw [h]; rfl) hl pages a c _ _ ro hoi (Nm3_spec q a c) hS3
  · exact Check_go 3 _ (by decide) (by decide) rfl (by kernel_rfl) (by decide +kernel) q _ h (by unfold rnamed; rw [h]; rfl) hl pages a c _ _ ro hoi (Nm4_spec q a c) hS4
  · exact Check_go 4 _ (by decide) (by decide) rfl (by kernel_rfl) (by decide +kernel) q _ h (by unfold rnamed; rw [h]; rfl) hl pages a c _ _ ro hoi (Nm1_spec q a c) hS1
  · exact Check_go 5 _ (by decide) (by decide) rfl (by kernel_rfl) (by decide +kernel) q _ h (by unfold rnamed; rw [h]; rfl) hl pages a c _ _ ro hoi (Nm1_spec q a c) hS1
  · exact Check_go 6 _ (by decide) (by decide) rfl (by kernel_rfl) (by decide +kernel) q _ h (by unfold rnamed; rw [h]; rfl) hl pages a c _ _ ro hoi (Nm2_spec q a c) hS2
  · exact Check_go 7 _ (by decide) (by decide) rfl (by kernel_rfl) (by decide +kernel) q _ h (by unfold rnamed; rw [h]; rfl) hl pages a c _ _ ro hoi (Nm1_spec q a c) hS1
  · exact Check_go 8 _ (by decide) (by decide) rfl (by kernel_rfl) (by decide +kernel) q _ h (by unfold rnamed; rw [h]; rfl) hl pages a c _ _ ro hoi (Nm2_spec q a c) hS2
end Go.Proofs.Ytfajcpnbhnddbaa
namespace Go.Proofs.Ytfajcpnbhnddbaa
open Go Go.Sl Go.IntWalk
set_option maxHeartbeats 2000000
set_option maxRecDepth 20000
set_option linter.unusedVariables false
theorem Get_spec (c : C6) (k : Int) : Ctr Try.prog 53 [c.v, .int .i64 k] [] [] (fun v L' => v = .tuple #[.int .u64 (c.get k).1, .bool (c.get k).2] ∧ L' = []) := by
  refine Ctr.enter (n := 14) [.tmp 4, .tmp 5] [(0, _), (1, _)] Try.func53 rfl rfl rfl (lb rfl) Try.call53 ⟨rfl, rfl, trivial⟩ ?_
  intro cx fin fin0
  refine aG ?_
  repeat (first | refine gw ?_ | refine gN fun _ => ?_ | refine gB fun _ => ?_ | fail)
  by_cases hk : 0 ≤ k ∧ k < 6
  · rcases kinds hk with rfl | rfl | rfl | rfl | rfl | rfl
    all_goals
      refine aC (o := of_yes _ _ (by omega)) (h := ?_)
      rintro _ _ ⟨rfl, rfl⟩
      refine aG ?_
      refine aV (OpVal.eqNil tab_ok rfl rfl rfl) ?_
      refine aF ?_
      repeat (first | refine gw ?_ | refine gN fun _ => ?_ | refine gB fun _ => ?_ | fail)
      refine W.ret (fin _ _ (FinOk.mk' ([]) (.tmp rfl (.tmp rfl .nil)) (by repeat (first | exact Sel.nil | (apply Sel.cons; (repeat (first | exact Pick.here | apply Pick.there))))) rfl ?_))
      exact ⟨rfl, rfl⟩
  · refine aC (o := of_no _ _ hk) (h := ?_)
    rintro _ _ ⟨rfl, rfl⟩
    refine aG ?_
    refine aV (OpVal.eqNil tab_ok rfl rfl rfl) ?_
    refine aT ?_
    refine W.ret (fin _ _ (FinOk.mk' ([]) (.tmp rfl (.tmp rfl .nil)) (by repeat (first | exact Sel.nil | (apply Sel.cons; (repeat (first | exact Pick.here | apply Pick.there))))) rfl ?_))
    refine ⟨?_, rfl⟩
    unfold C6.get
    repeat rw [if_neg (by omega)]
    rfl
def C6.plus (a c : C6) (j : Nat) : C6 := (List.range j).foldl (fun a (i : Nat) => a.add (i : Int) (c.get (i : Int)).1) a
def sumTo (acc : C6) (xs : List C6) : C6 := xs.foldl (fun a c => a.plus c 6) acc
def sumC (xs : List C6) : C6 := sumTo ⟨0, 0, 0, 0, 0, 0⟩ xs
theorem C6.plus_succ (a c : C6) (j : Nat) : a.plus c (j + 1) = (a.plus c j).add (j : Int) (c.get (j : Int)).1 := by
  unfold C6.plus
  rw [List.range_succ, List.foldl_append]
  rfl
theorem C6.plus_ok {a c : C6} (ha : a.Ok) (hc : c.Ok) (j : Nat) : (a.plus c j).Ok := by
  induction j with
  | zero => exact ha
  | succ j ih => rw [C6.plus_succ]; exact C6.add_ok ih _ (C6.get_u64 hc _)
theorem C6.l_len (c : C6) : c.l.length = 6 := rfl
theorem sumC_take (xs : List C6) (i : Nat) (hi : i < xs.length) : sumC (xs.take (i + 1)) = (sumC (xs.take i)).plus xs[i] 6 := by
  unfold sumC sumTo
  rw [List.take_add_one, List.foldl_append]
  simp [hi]
theorem zero_ok : (⟨0, 0, 0, 0, 0, 0⟩ : C6).Ok := ⟨⟨by decide, by decide⟩, ⟨by decide, by decide⟩, ⟨by decide, by decide⟩, ⟨by decide, by decide⟩, ⟨by decide, by decide⟩, ⟨by decide, by decide⟩⟩
theorem sumC_ok {xs : List C6} (h : ∀ c ∈ xs, c.Ok) : (sumC xs).Ok := by
  unfold sumC
  have : ∀ (xs : List C6) (acc : C6), acc.Ok → (∀ c ∈ xs, c.Ok) → (sumTo acc xs).Ok := by
    intro xs
    induction xs with
    | nil => intro acc ha _; exact ha
    | cons x xs ih => intro acc ha h; exact ih _ (C6.plus_ok ha (h x (by simp)) 6) (fun c hc => h c (by simp [hc]))
  exact this xs _ zero_ok h
theorem Sum_spec (xs : List C6) (hx : ∀ c ∈ xs, c.Ok) (hlen : xs.length ≤ 1000) (a : Option Addr) (cap : Nat) (ro : HL) (hro : RoSl 6 (xs.flatMap C6.l) a xs.length ro) :
    Ctr Try.prog 38 [.slice a xs.length cap] [] ro (fun v L' => v = (sumC xs).v ∧ L' = []) := by
  refine Ctr.enter (n := 31) [.cell 2 38] [(0, _)] Try.func38 rfl rfl rfl (lb rfl) Try.call38 ⟨rfl, trivial⟩ ?_
  intro cx fin fin0
  refine aG ?_
  refine W.new tab_ok rfl rfl (by decide) ?_
  intro b2
  refine aG ?_
  refine W.new tab_ok rfl rfl (by decide) ?_
  intro b3
  refine aG ?_
  refine aLp (fun m ρ1 L1 => ∃ (i : Nat) (acc : C6), i ≤ xs.length ∧ acc = sumC (xs.take i) ∧ m = xs.length - i ∧ ρ1 = [(9, .slice a xs.length cap), (10, .int .i64 (xs.length : Int)), (11, .int .i64 (i : Int)), (2, .pointer (some ⟨b2, 0, none⟩)), (3, .pointer (some ⟨b3, 0, none⟩))] ∧ L1 = [[(b3, .cells acc.l.toArray 38 (0, 0))], [(b2, .cells (⟨0, 0, 0, 0, 0, 0⟩ : C6).l.toArray 38 (0, 0))]]) (o := ⟨0, ⟨0, 0, 0, 0, 0, 0⟩, Nat.zero_le _, rfl, rfl, rfl, rfl⟩) (h := ?_)
  rintro m ρ1 L1 ⟨i, acc, hi, hacce, rfl, rfl, rfl⟩
  refine aG ?_
  by_cases hlt : i < xs.length
  · refine aT ?_ (hb := by simp; omega)
    rcases hro.2 with ⟨h0, _⟩ | ⟨b, off, l, e, fr, rfl, rfl, hl, hcs⟩
    · omega
    have hseg := RoSl.elem C6.l_len hl hcs hlt
    have hok : xs[i].Ok := hx _ (List.getElem_mem hlt)
    have hnx : sumC (xs.take (i + 1)) = acc.plus xs[i] 6 := by rw [sumC_take xs i hlt, ← hacce]
    generalize xs[i] = x at hseg hok hnx
    have hacc : acc.Ok := hacce ▸ sumC_ok (fun c hc => hx c (List.mem_of_mem_take hc))
    refine aV (OpVal.ixSl tab_ok rfl rfl rfl rfl rfl hlt) ?_
    refine aV (OpVal.load tab_ok rfl (at_ro 0 rfl) (by show (match seg? l (off + i * 6) 6 with | some vs => some (Value.agg ⟨vs⟩) | none => none) = _; rw [hseg])) ?_
    refine W.new tab_ok rfl rfl (by decide) ?_
    intro b5
    refine aG ?_
    refine W.store tab_ok rfl Upd.here rfl rfl rfl rfl rfl rfl (W.step tab_ok rfl rfl ?_)
    refine aLp (fun m ρ1 L1 => ∃ (j : Nat) (ac2 : C6), j ≤ 6 ∧ ac2 = acc.plus x j ∧ m = 6 - j ∧ ρ1 = [(15, .int .i64 (j : Int)), (5, .pointer (some ⟨b5, 0, none⟩)), (9, .slice (some ⟨b, off, none⟩) xs.length cap), (10, .int .i64 (xs.length : Int)), (11, .int .i64 (i : Int)), (2, .pointer (some ⟨b2, 0, none⟩)), (3, .pointer (some ⟨b3, 0, none⟩))] ∧ L1 = [[(b3, .cells ac2.l.toArray 38 (0, 0))], [(b5, .cells x.l.toArray 38 (0, 0))], [(b2, .cells (⟨0, 0, 0, 0, 0, 0⟩ : C6).l.toArray 38 (0, 0))]]) (o := ⟨0, acc, Nat.zero_le _, rfl, rfl, rfl, rfl⟩) (h := ?_)
    rintro m ρ1 L1 ⟨j, ac2, hj, rfl, rfl, rfl, rfl⟩
    refine aG ?_
    by_cases hjl : j < 6
    · refine aT ?_ (hb := by simp; omega)
      repeat (first | refine gw ?_ | refine gN fun _ => ?_ | refine gB fun _ => ?_ | fail)
      refine aC (o := Get_spec x (j : Int)) (h := ?_)
      rintro _ _ ⟨rfl, rfl⟩
      refine aG ?_
      repeat (first | refine gw ?_ | refine gN fun _ => ?_ | refine gB fun _ => ?_ | fail)
      refine aC (o := Add_spec (acc.plus x j) (j : Int) (x.get (j : Int)).1 (C6.plus_ok hacc hok j) (C6.get_u64 hok _)) (h := ?_)
      rintro _ _ ⟨rfl, rfl⟩
      refine aG ?_
      repeat (first | refine gw ?_ | refine gN fun _ => ?_ | refine gB fun _ => ?_ | fail)
      refine aV (OpVal.add rfl rfl (i64_in _ (by omega))) ?_
      refine aR (o := ⟨6 - (j + 1), by omega, j + 1, _, by omega, (C6.plus_succ _ _ _).symm, rfl, rfl, rfl⟩)
    · refine aF ?_ (hb := by simp; omega)
      have hj6 : j = 6 := by omega
      subst hj6
      refine aV (OpVal.add rfl rfl (i64_in _ (by omega))) ?_
      refine aR (o := ⟨xs.length - (i + 1), by omega, i + 1, _, by omega, hnx.symm, rfl, rfl, rfl⟩)
  · refine aF ?_ (hb := by simp; omega)
    have : i = xs.length := by omega
    subst this
    repeat (first | refine gw ?_ | refine gN fun _ => ?_ | refine gB fun _ => ?_ | fail)
    refine W.ret (fin _ _ (FinOk.mk' ([]) (aRc .nil) (by repeat (first | exact Sel.nil | (apply Sel.cons; (repeat (first | exact Pick.here | apply Pick.there))))) rfl ?_))
    refine ⟨?_, rfl⟩
    rw [List.take_length] at hacce
    rw [← hacce]
    rfl
end Go.Proofs.Ytfajcpnbhnddbaa
namespace Go.Proofs.Ytfajcpnbhnddbaa
open Go Go.Sl Go.IntWalk
set_option maxHeartbeats 4000000
set_option maxRecDepth 20000
set_option linter.unusedVariables false
structure Rs where
  id : Int
  errno : Int
  hit : Bool
  tick : Int
  data : List Int
  c : C6
structure Tn where
  m : Mc
  p : Pt
  js : List (Int × Rq)
  pages : Int
  ids : Int
  c : C6
  out : List Rs
def noJob : Int × Rq := (0, ⟨0, 0, 0, 0, []⟩)
def Tn.tell (t : Tn) (x : Re) (tick : Int) : Tn :=
  if x.done = true then { t with c := sumC [t.c, x.add], js := t.js.tail, out := t.out ++ [⟨(t.js.headD noJob).1, x.errno, x.hit, tick, x.data, if (t.js.headD noJob).2.op = 8 then sumC [t.c, x.add] else C6.none⟩] }
  else { t with c := sumC [t.c, x.add] }
def Tn.begun (t : Tn) (tick : Int) : Tn := ({ t with m := (mBegin t.m t.p (t.js.headD noJob).2).1, p := (mBegin t.m t.p (t.js.headD noJob).2).2.1 } : Tn).tell (mBegin t.m t.p (t.js.headD noJob).2).2.2 tick
def Tn.run (tick : Int) : Nat → Tn → Tn
  | 0, t => t
  | n + 1, t => if t.m.todo = [] ∧ t.js ≠ [] then Tn.run tick n (t.begun tick) else t
def Tn.go (t : Tn) (tick : Int) : Tn := t.run tick t.js.length
def Tn.submit (d : Nat) (t : Tn) (q : Rq) (tick : Int) : Tn × Int × Int :=
  if rcheck q t.pages ≠ 0 then (t, 0, rcheck q t.pages) else if d ≤ t.js.length then (t, 0, 8)
  else (({ t with js := t.js ++ [(t.ids + 1, q)], ids := t.ids + 1 } : Tn).go tick, t.ids + 1, 0)
def Tn.over (t : Tn) (e : Int) (bs : List Int) (tick : Int) : Tn :=
  (({ t with m := (mEnd t.m t.p e bs).1, p := (mEnd t.m t.p e bs).2.1 } : Tn).tell (mEnd t.m t.p e bs).2.2 tick).go tick
def Tn.crash (t : Tn) : Tn := { t with m := Mc.idle, p := Pt.new t.p.fs.length, js := [], c := C6.none }
def Tn.taken (t : Tn) : Tn := { t with out := [] }
def Tn.new (n : Nat) (pages : Int) : Tn := ⟨Mc.idle, Pt.new n, [], pages, 0, C6.none, []⟩
structure JOk (q : Rq) : Prop where
  ok : q.Ok
  dl : q.data.length ≤ 32
theorem check_ok {q : Rq} {pages : Int} (h : rcheck q pages = 0) (hu : u8ok q.data) : JOk q := by
  unfold rcheck at h
  split at h
  · cases h
  · rename_i h1
    split at h
    · cases h
    · rename_i h2
      split at h
      · cases h
      · rename_i h3
        have h4 : 1 ≤ q.op ∧ q.op ≤ 8 := Decidable.byContradiction fun hc => h1 (.inl hc)
        have h5 : q = rnamed q := Decidable.byContradiction fun hc => h1 (.inr hc)
        have h6 : 0 ≤ q.page := by
          by_cases h8 : q.op = 6 ∨ q.op = 8
          · have := congrArg Rq.page h5
            unfold rnamed at this
            rw [if_neg (by omega), if_neg (by omega), if_neg (by omega)] at this
            simp only at this
            omega
          · omega
        exact ⟨⟨h4, h6, by unfold i64s; omega, by unfold i64s; omega, hu, by omega⟩, by omega⟩
structure TInv (d : Nat) (t : Tn) : Prop where
  mi : MInv t.m t.p
  cok : t.c.Ok
  jok : ∀ j ∈ t.js, JOk j.2
  len : t.js.length ≤ d
  bz : t.m.todo ≠ [] → t.js ≠ []
  ids : (t.out.length : Int) + t.js.length ≤ t.ids
theorem c6none_ok : C6.none.Ok := zero_ok
theorem sum2_ok {a b : C6} (ha : a.Ok) (hb : b.Ok) : (sumC [a, b]).Ok := sumC_ok fun c hc => by
  simp only [List.mem_cons, List.not_mem_nil, or_false] at hc
  rcases hc with rfl | rfl <;> assumption
theorem planFetch_ne (p : Int) (d : Bool) (o : Int) : planFetch p d o ≠ [] := by cases d <;> simp [planFetch, pages, both]
theorem planFlush_ne (ps : List Int) : planFlush ps ≠ [] := by simp [planFlush]
theorem c01 {c : C6} (h : c.h = 0 ∨ c.h = 1 := by first | exact .inl rfl | exact .inr rfl) (m : c.m = 0 ∨ c.m = 1 := by first | exact .inl rfl | exact .inr rfl) (e : c.e = 0 ∨ c.e = 1 := by first | exact .inl rfl | exact .inr rfl) (r : c.r = 0 ∨ c.r = 1 := by first | exact .inl rfl | exact .inr rfl) (w : c.w = 0 ∨ c.w = 1 := by first | exact .inl rfl | exact .inr rfl) (f : c.f = 0 ∨ c.f = 1 := by first | exact .inl rfl | exact .inr rfl) : c.Ok := by
  unfold C6.Ok u64; omega
theorem begin_done {m : Mc} {p : Pt} (ht : m.todo = []) (q : Rq) : (mBegin m p q).2.2.add.Ok ∧ ((mBegin m p q).2.2.done = true → (mBegin m p q).1.todo = []) ∧ ((mBegin m p q).2.2.done = false → (mBegin m p q).1.todo ≠ []) := by
  unfold mBegin mOp
  split
  · unfold mFetch
    split
    · refine ⟨?_, fun _ => ht, fun h => ?_⟩
      · simp only; split <;> exact c01
      · simp only at h; split at h <;> cases h
    · unfold mMiss
      split
      · exact ⟨c01, fun _ => ht, fun h => by cases h⟩
      · refine ⟨?_, fun h => (by cases h), fun _ => planFetch_ne _ _ _⟩
        simp only; split <;> exact c01
  · split
    · refine ⟨?_, fun _ => ht, fun h => ?_⟩
      · simp only [mRead]; split <;> exact c01
      · simp only [mRead] at h; split at h <;> cases h
    · split
      · refine ⟨?_, fun _ => ht, fun h => ?_⟩
        · simp only [mWrite]; split <;> exact c01
        · simp only [mWrite] at h; split at h <;> cases h
      · split
        · exact ⟨zero_ok, fun _ => ht, fun h => by cases h⟩
        · split
          · exact ⟨zero_ok, fun h => (by cases h), fun _ => planFlush_ne _⟩
          · split
            · exact ⟨zero_ok, fun h => (by cases h), fun _ => planFlush_ne _⟩
            · split
              · exact ⟨zero_ok, fun _ => ht, fun h => by cases h⟩
              · exact ⟨zero_ok, fun _ => ht, fun h => by cases h⟩
theorem end_done (m : Mc) (p : Pt) (e : Int) (bs : List Int) : (mEnd m p e bs).2.2.add.Ok ∧ ((mEnd m p e bs).2.2.done = true → (mEnd m p e bs).1.todo = []) ∧ ((mEnd m p e bs).2.2.done = false → (mEnd m p e bs).1.todo ≠ []) := by
  have hst : (mStep m p bs).2.2.Ok := by
    unfold mStep
    split
    · unfold mStored; split <;> exact c01
    · split <;> exact zero_ok
  unfold mEnd
  split
  · exact ⟨c01, fun _ => rfl, fun h => by cases h⟩
  · split
    · rename_i h
      exact ⟨hst, fun h => (by cases h), fun _ h2 => by rw [h2] at h; exact absurd h (by decide)⟩
    · exact ⟨hst, fun _ => rfl, fun h => by cases h⟩
theorem tell_inv {d : Nat} {t : Tn} {m : Mc} {p : Pt} {x : Re} (h : TInv d t) (hj : t.js ≠ []) (mi : MInv m p) (ha : x.add.Ok) (h1 : x.done = true → m.todo = []) (tick : Int) : TInv d (({ t with m := m, p := p } : Tn).tell x tick) := by
  unfold Tn.tell
  have hl := h.len
  have hi := h.ids
  have h0 : 0 < t.js.length := List.length_pos_iff.2 hj
  split
  · rename_i hd
    exact ⟨mi, sum2_ok h.cok ha, fun j hm => h.jok j (List.mem_of_mem_tail hm), by simp only [List.length_tail]; omega, fun hb => absurd (h1 hd) hb, by simp only [List.length_tail, List.length_append, List.length_singleton]; omega⟩
  · exact ⟨mi, sum2_ok h.cok ha, h.jok, hl, fun _ => hj, hi⟩
theorem head_mem {js : List (Int × Rq)} (h : js ≠ []) : js.headD noJob ∈ js := by cases js with | nil => exact absurd rfl h | cons j js => simp
theorem begun_inv {d : Nat} {t : Tn} (h : TInv d t) (ht : t.m.todo = []) (hj : t.js ≠ []) (tick : Int) : TInv d (t.begun tick) := by
  have hq := h.jok _ (head_mem hj)
  have hd := begin_done (p := t.p) ht (t.js.headD noJob).2
  exact tell_inv h hj (begin_inv h.mi ht hq.ok.op.1 hq.ok.op.2 hq.ok.u8) hd.1 hd.2.1 tick
theorem run_inv {d : Nat} (tick : Int) : ∀ (n : Nat) {t : Tn}, TInv d t → TInv d (t.run tick n)
  | 0, t, h => h
  | n + 1, t, h => by
    unfold Tn.run
    split
    · rename_i hc; exact run_inv tick n (begun_inv h hc.1 hc.2 tick)
    · exact h
theorem begun_step {t : Tn} (ht : t.m.todo = []) (hj : t.js ≠ []) (tick : Int) : ((t.begun tick).m.todo = [] ∧ (t.begun tick).js = t.js.tail) ∨ ((t.begun tick).m.todo ≠ [] ∧ (t.begun tick).js = t.js) := by
  have hd := begin_done (p := t.p) ht (t.js.headD noJob).2
  unfold Tn.begun Tn.tell
  cases hx : (mBegin t.m t.p (t.js.headD noJob).2).2.2.done with
  | true => rw [if_pos rfl]; exact .inl ⟨hd.2.1 hx, rfl⟩
  | false => rw [if_neg (by simp)]; exact .inr ⟨hd.2.2 hx, rfl⟩
theorem run_busy (tick : Int) : ∀ (n : Nat) {t : Tn}, t.m.todo ≠ [] → t.run tick n = t
  | 0, t, _ => rfl
  | n + 1, t, h => by unfold Tn.run; rw [if_neg (fun hc => h hc.1)]
theorem run_none (tick : Int) : ∀ (n : Nat) {t : Tn}, t.js = [] → t.run tick n = t
  | 0, t, _ => rfl
  | n + 1, t, h => by unfold Tn.run; rw [if_neg (fun hc => hc.2 h)]
theorem go_begun {t : Tn} (ht : t.m.todo = []) (hj : t.js ≠ []) (tick : Int) : t.go tick = (t.begun tick).go tick := by
  have h0 : 0 < t.js.length := List.length_pos_iff.2 hj
  obtain ⟨k, hk⟩ : ∃ k, t.js.length = k + 1 := ⟨t.js.length - 1, by omega⟩
  have e : t.go tick = (t.begun tick).run tick k := by
    unfold Tn.go
    rw [hk]
    show (if t.m.todo = [] ∧ t.js ≠ [] then Tn.run tick k (t.begun tick) else t) = _
    rw [if_pos ⟨ht, hj⟩]
  rw [e]
  rcases begun_step ht hj tick with ⟨h1, h2⟩ | ⟨h1, h2⟩
  · unfold Tn.go
    rw [h2, List.length_tail, hk]
    rfl
  · rw [run_busy _ _ h1]; unfold Tn.go; rw [run_busy _ _ h1]
theorem go_quiet {t : Tn} (h : t.m.todo ≠ [] ∨ t.js = []) (tick : Int) : t.go tick = t := by
  unfold Tn.go
  rcases h with h | h
  · exact run_busy _ _ h
  · exact run_none _ _ h
theorem run_quiet (tick : Int) : ∀ (n : Nat) {t : Tn}, t.js.length ≤ n → (t.run tick n).m.todo = [] → (t.run tick n).js = []
  | 0, t, h, _ => List.length_eq_zero_iff.1 (by show t.js.length = 0; omega)
  | n + 1, t, h, ht => by
    unfold Tn.run at ht ⊢
    by_cases hc : t.m.todo = [] ∧ t.js ≠ []
    · rw [if_pos hc] at ht ⊢
      rcases begun_step hc.1 hc.2 tick with ⟨h1, h2⟩ | ⟨h1, h2⟩
      · exact run_quiet tick n (by rw [h2, List.length_tail]; omega) ht
      · rw [run_busy _ _ h1] at ht; exact absurd ht h1
    · rw [if_neg hc] at ht ⊢
      by_cases hj : t.js = []
      · exact hj
      · exact absurd ⟨ht, hj⟩ hc
theorem go_idle {t : Tn} (tick : Int) : (t.go tick).m.todo = [] → (t.go tick).js = [] := run_quiet tick _ (Nat.le_refl _)
theorem put_inv {d : Nat} {t : Tn} (h : TInv d t) {q : Rq} (hq : JOk q) (hd : ¬ d ≤ t.js.length) : TInv d { t with js := t.js ++ [(t.ids + 1, q)], ids := t.ids + 1 } := by
  refine ⟨h.mi, h.cok, fun j hj => ?_, by simp only [List.length_append, List.length_singleton]; omega, fun _ => by simp, ?_⟩
  · rcases List.mem_append.1 hj with hj | hj
    · exact h.jok j hj
    · simp only [List.mem_singleton] at hj
      subst hj
      exact hq
  · have := h.ids
    simp only [List.length_append, List.length_singleton]; omega
theorem submit_inv {d : Nat} {t : Tn} (h : TInv d t) {q : Rq} (hq : rcheck q t.pages = 0 → JOk q) (tick : Int) : TInv d (t.submit d q tick).1 := by
  unfold Tn.submit
  split
  · exact h
  · rename_i hc
    split
    · exact h
    · rename_i hd
      exact run_inv tick _ (put_inv h (hq (by simpa using hc)) hd)
theorem end_invE {m : Mc} {p : Pt} (h : MInv m p) (hne : m.todo ≠ []) (e : Int) {bs : List Int} (hb : e = 0 → u8ok bs ∧ bs.length = 16) : MInv (mEnd m p e bs).1 (mEnd m p e bs).2.1 := by
  rcases Classical.em (e = 0) with h0 | h0
  · exact end_inv h hne e (hb h0).1 (hb h0).2
  · unfold mEnd
    rw [if_pos h0]
    exact idle_inv h.inv
theorem over_inv {d : Nat} {t : Tn} (h : TInv d t) (hb : t.m.todo ≠ []) (e : Int) {bs : List Int} (hu : e = 0 → u8ok bs ∧ bs.length = 16) (tick : Int) : TInv d (t.over e bs tick) := by
  have hd := end_done t.m t.p e bs
  exact run_inv tick _ (tell_inv h (h.bz hb) (end_invE h.mi hb e hu) hd.1 hd.2.1 tick)
theorem new_inv (d n : Nat) (h1 : 1 ≤ n) (h64 : n ≤ 64) (pages : Int) : TInv d (Tn.new n pages) := ⟨idle_inv (Pt.new_inv h1 h64), c6none_ok, fun _ h => (by cases h), Nat.zero_le _, fun h => absurd rfl h, by simp [Tn.new]⟩
theorem taken_inv {d : Nat} {t : Tn} (h : TInv d t) : TInv d t.taken := ⟨h.mi, h.cok, h.jok, h.len, h.bz, by have := h.ids; simp only [Tn.taken, List.length_nil]; omega⟩
theorem crash_inv {d : Nat} {t : Tn} (h : TInv d t) : TInv d t.crash := by
  have h1 := h.mi.inv.ok
  refine ⟨idle_inv (Pt.new_inv h1.2.1 h1.2.2), c6none_ok, fun _ h => (by cases h), Nat.zero_le _, fun h => absurd rfl h, ?_⟩
  have := h.ids
  simp only [Tn.crash, List.length_nil]; omega
end Go.Proofs.Ytfajcpnbhnddbaa
namespace Go.Proofs.Ytfajcpnbhnddbaa
open Go Go.Sl Go.IntWalk
set_option maxHeartbeats 8000000
set_option maxRecDepth 20000
set_option linter.unusedVariables false
structure Jb where
  id : Int
  op : Int
  page : Int
  off : Int
  len : Int
  a : Option Addr
  cap : Nat
  xs : List Int
def Jb.l (j : Jb) : List Value := [.int .i64 j.id, .int .i64 j.op, .int .i64 j.page, .int .i64 j.off, .int .i64 j.len, .slice j.a j.xs.length j.cap]
def QAt (m : Nat) (js : List Jb) (b : Nat) (H : HL) : Prop := ∃ (lx : List Value) (at_ br : Nat), lx.length = m * 6 ∧ 1 ≤ m ∧ m ≤ 8 ∧ js.length ≤ m ∧ at_ < m ∧ (∀ i (h : i < js.length), seg? lx (0 + (at_ + i) % m * 6) 6 = some js[i].l) ∧
  H = [(b, Obj.cells (List.toArray [.slice (some ⟨br, 0, none⟩) m m, .int .i64 (at_ : Int), .int .i64 (js.length : Int)]) 93 (0, 0))] ++ [(br, .cells lx.toArray 76 (0, 0))]
theorem QFull_spec (m : Nat) (js : List Jb) (b : Nat) (H : HL) (h : QAt m js b H) : Ctr Try.prog 34 [.pointer (some ⟨b, 0, none⟩)] [] H (fun v L' => v = .bool (decide ((js.length : Int) = (m : Int))) ∧ L' = []) := by
  obtain ⟨lx, at_, br, h1, h2, h3, h4, h5, h6, rfl⟩ := h
  refine Ctr.enter (n := 13) [.tmp 2] [(0, _)] Try.func34 rfl rfl rfl (lb rfl) Try.call34 ⟨rfl, trivial⟩ ?_
  intro cx fin fin0
  refine aG ?_
  refine W.draw follows (by decide +kernel) (zG ?_)
  repeat (first | refine zL ?_ | (first | refine zGo ?_ | refine zSk ?_ | refine zUn ?_ | fail) | (first | refine zPT ?_ | refine zPF ?_ | fail) | refine zV (OpVal.add rfl rfl (i64_in _ (by omega))) ?_ | refine zV (OpVal.sub rfl rfl (i64_in _ (by omega))) ?_ | refine zV (OpVal.neBool tab_ok rfl rfl rfl) ?_ | refine zV (OpVal.eqBool tab_ok rfl rfl rfl) ?_ | refine zV (OpVal.eqNil tab_ok rfl rfl rfl) ?_ | refine zV (OpVal.neNil tab_ok rfl rfl rfl) ?_ | fail)
  refine WZ.nil (aG ?_)
  repeat (first | refine gx ?_ | refine gN fun _ => ?_ | refine gB fun _ => ?_ | fail)
  refine W.ret (fin _ _ (FinOk.first 0 (.tmp rfl .nil) rfl ?_))
  exact ⟨rfl, rfl⟩
theorem QLen_spec (m : Nat) (js : List Jb) (b : Nat) (H : HL) (h : QAt m js b H) : Ctr Try.prog 29 [.pointer (some ⟨b, 0, none⟩)] [] H (fun v L' => v = .int .i64 (js.length : Int) ∧ L' = []) := by
  obtain ⟨lx, at_, br, h1, h2, h3, h4, h5, h6, rfl⟩ := h
  refine Ctr.enter (n := 7) [.tmp 2] [(0, _)] Try.func29 rfl rfl rfl (lb rfl) Try.call29 ⟨rfl, trivial⟩ ?_
  intro cx fin fin0
  refine aG ?_
  repeat (first | refine gx ?_ | refine gN fun _ => ?_ | refine gB fun _ => ?_ | fail)
  refine W.ret (fin _ _ (FinOk.first 0 (.tmp rfl .nil) rfl ?_))
  exact ⟨rfl, rfl⟩
theorem QNew_spec (m : Nat) (h1 : 1 ≤ m) (h8 : m ≤ 8) : Ctr Try.prog 18 [.int .i64 (m : Int)] [] [] (fun v L' => ∃ b H, v = .tuple #[.pointer (some ⟨b, 0, none⟩), .int .i64 0] ∧ L' = [H] ∧ QAt m [] b H) := by
  have k1 : ¬ (m : Int) < 1 := by omega
  have k2 : ¬ (m : Int) > 1000 := by omega
  refine Ctr.enter (n := 14) [.tmp 2, .tmp 3] [(0, _)] Try.func18 rfl rfl rfl (lb rfl) Try.call18 ⟨rfl, trivial⟩ ?_
  intro cx fin fin0
  refine aG ?_
  repeat (first | refine gh (gc2 k1 k2) ?_ | refine gN fun _ => ?_ | refine gB fun _ => ?_ | fail)
  refine aW (NewOf.mks (bytes := 64) (len := m) (cap := m) tab_ok rfl rfl rfl rfl rfl rfl rfl rfl rfl (Nat.le_refl _) (by omega) (by omega)) ?_
  intro br
  refine aG ?_
  refine aBu (ps := [_]) ?_
  repeat (first | refine gx ?_ | refine gN fun _ => ?_ | refine gB fun _ => ?_ | fail)
  rename_i b
  refine W.groupV [0, 0] rfl ?_
  refine W.ret (fin _ _ (FinOk.first 1 (.tmp rfl (.tmp rfl .nil)) rfl ?_))
  exact ⟨b, _, rfl, rfl, _, 0, br, by rw [repL_len]; rfl, h1, h8, Nat.zero_le _, h1, (by intro i hi; simp at hi), rfl⟩
def Jb.zero : Jb := ⟨0, 0, 0, 0, 0, none, 0, []⟩
theorem QFirst_spec (m : Nat) (js : List Jb) (b : Nat) (H : HL) (h : QAt m js b H) : Ctr Try.prog 36 [.pointer (some ⟨b, 0, none⟩)] [] H
    (fun v L' => v = .tuple #[.agg (js.headD Jb.zero).l.toArray, .bool (decide (0 < js.length))] ∧ L' = []) := by
  obtain ⟨lx, at_, br, h1, h2, h3, h4, h5, h6, rfl⟩ := h
  cases js with
  | nil =>
    have hz : (([] : List Jb).length : Int) = 0 := rfl
    refine Ctr.enter (n := 21) [.cell 2 76, .tmp 3] [(0, _)] Try.func36 rfl rfl rfl (lb rfl) Try.call36 ⟨rfl, trivial⟩ ?_
    intro cx fin fin0
    refine aG ?_
    repeat (first | refine gh hz ?_ | refine gN fun _ => ?_ | refine gB fun _ => ?_ | fail)
    refine W.ret (fin _ _ (FinOk.first 0 (aRc (.tmp rfl .nil)) rfl ?_))
    exact ⟨rfl, rfl⟩
  | cons j js =>
    have hz : ¬ ((j :: js).length : Int) = 0 := by simp; omega
    have hs := h6 0 (by simp)
    rw [Nat.add_zero, Nat.mod_eq_of_lt h5] at hs
    have hs2 : seg? lx (0 + at_ * 6) 6 = some [.int .i64 j.id, .int .i64 j.op, .int .i64 j.page, .int .i64 j.off, .int .i64 j.len, .slice j.a j.xs.length j.cap] := hs
    refine Ctr.enter (n := 21) [.cell 2 76, .tmp 3] [(0, _)] Try.func36 rfl rfl rfl (lb rfl) Try.call36 ⟨rfl, trivial⟩ ?_
    intro cx fin fin0
    refine aG ?_
    repeat (first | refine gh hz ?_ | refine gN fun _ => ?_ | refine gB fun _ => ?_ | fail)
    refine W.drawH tab_ok 11 [.b false, .b false, .b false, .b false, .b false, .b false, .b false, .b false, .b false, .b false, .b true] [1] follows (by decide +kernel) (by decide +kernel) rfl (by decide) rfl ?_
    intro _
    refine dG ?_
    repeat (first | refine dL ?_ | refine dS ?_ | (first | refine dGo ?_ | refine dSk ?_ | refine dUn ?_ | fail) | (first | refine dPT ?_ | refine dPF ?_ | fail) | refine dV (OpVal.add rfl rfl (i64_in _ (by omega))) ?_ | refine dV (OpVal.sub rfl rfl (i64_in _ (by omega))) ?_ | refine dV (OpVal.neBool tab_ok rfl rfl rfl) ?_ | refine dV (OpVal.eqBool tab_ok rfl rfl rfl) ?_ | refine dV (OpVal.eqNil tab_ok rfl rfl rfl) ?_ | refine dV (OpVal.neNil tab_ok rfl rfl rfl) ?_ | fail)
    refine dV (OpVal.ixSl (j := at_) tab_ok rfl rfl rfl rfl rfl h5) ?_
    refine dV (OpVal.loadN ty_76.1 ty_76.2 rfl (show At _ _ br (.cells lx.toArray 76 (0, 0)) from .inr (by simp)) hs2) ?_
    repeat (first | refine dL ?_ | refine dS ?_ | (first | refine dGo ?_ | refine dSk ?_ | refine dUn ?_ | fail) | (first | refine dPT ?_ | refine dPF ?_ | fail) | refine dV (OpVal.add rfl rfl (i64_in _ (by omega))) ?_ | refine dV (OpVal.sub rfl rfl (i64_in _ (by omega))) ?_ | refine dV (OpVal.neBool tab_ok rfl rfl rfl) ?_ | refine dV (OpVal.eqBool tab_ok rfl rfl rfl) ?_ | refine dV (OpVal.eqNil tab_ok rfl rfl rfl) ?_ | refine dV (OpVal.neNil tab_ok rfl rfl rfl) ?_ | fail)
    refine WD.nil (W.dropNil (aG ?_))
    repeat (first | refine gx ?_ | refine gN fun _ => ?_ | refine gB fun _ => ?_ | fail)
    refine W.ret (fin _ _ (FinOk.first 0 (aRc (.tmp rfl .nil)) rfl ?_))
    exact ⟨by simp [pack, List.headD, Jb.l], rfl⟩
end Go.Proofs.Ytfajcpnbhnddbaa
namespace Go.Proofs.Ytfajcpnbhnddbaa
open Go Go.Sl Go.IntWalk
set_option maxHeartbeats 8000000
set_option maxRecDepth 20000
set_option linter.unusedVariables false
theorem spl2 {P : Program} {n : Nat} {R : HL} {cx : Cx} {K : List Kont} {ρ : Env} {L M : List HL} {A B : HL} (h : L = (A ++ B) :: M) (hk : W P n R cx K ρ (A :: B :: M)) : W P n R cx K ρ L := by
  subst h
  exact W.regroup (by simp) hk
theorem tmodN (a b : Nat) : (a : Int).tmod (b : Int) = ((a % b : Nat) : Int) := (Int.ofNat_tmod a b).symm
theorem mod2 {x m : Nat} (h : x < 2 * m) : x % m = if x < m then x else x - m := by
  split
  · exact Nat.mod_eq_of_lt ‹_›
  · rw [Nat.mod_eq_sub_mod (by omega), Nat.mod_eq_of_lt (by omega)]
theorem seg_splice_ne {l l' vs : List Value} {o p k : Nat} (h : splice? l o vs = some l') (hd : p + k ≤ o ∨ o + vs.length ≤ p) (hp : p + k ≤ l.length) : seg? l' p k = seg? l p k := by
  obtain ⟨h1, h2⟩ := splice?_eq _ _ _ h
  have hl : l'.length = l.length := by rw [h2]; simp; omega
  rw [seg?_of _ _ _ (by omega), seg?_of _ _ _ hp]
  congr 1
  apply List.ext_getElem?
  intro i
  rw [h2]
  simp only [List.getElem?_take, List.getElem?_drop, List.getElem?_append, List.length_append, List.length_take]
  split
  · rcases hd with hd | hd
    · rw [if_pos (by omega), if_pos (by omega), if_pos (by omega)]
    · rw [if_neg (by omega)]
      congr 1
      omega
  · rfl
theorem seg_splice_eq {l l' vs : List Value} {o : Nat} (h : splice? l o vs = some l') : seg? l' o vs.length = some vs := by
  obtain ⟨h1, h2⟩ := splice?_eq _ _ _ h
  have ht : (l.take o).length = o := by rw [List.length_take]; omega
  rw [seg?_of _ _ _ (by rw [h2]; simp; omega), h2, List.append_assoc, List.drop_append, ht, Nat.sub_self, List.drop_zero, List.drop_of_length_le (by omega)]
  simp
theorem splice_len {l l' vs : List Value} {o : Nat} (h : splice? l o vs = some l') : l'.length = l.length := by
  obtain ⟨h1, h2⟩ := splice?_eq _ _ _ h
  rw [h2]; simp; omega
theorem QPut_spec (m : Nat) (js : List Jb) (b : Nat) (H : HL) (h : QAt m js b H) (j : Jb) : Ctr Try.prog 24 [.pointer (some ⟨b, 0, none⟩), .agg j.l.toArray] [H] []
    (fun v L' => ∃ H', L' = [H'] ∧ ((js.length = m ∧ v = .int .i64 8 ∧ QAt m js b H') ∨ (js.length < m ∧ v = .int .i64 0 ∧ QAt m (js ++ [j]) b H'))) := by
  have hF := QFull_spec m js b H h
  have h0 := h
  obtain ⟨lx, at_, br, h1, h2, h3, h4, h5, h6, rfl⟩ := h
  by_cases hf : (js.length : Int) = (m : Int)
  · refine Ctr.enter (n := 35) [.tmp 4] [(0, _), (1, _)] Try.func24 rfl rfl rfl (lb rfl) Try.call24 ⟨rfl, rfl, trivial⟩ ?_
    intro cx fin fin0
    refine aG ?_
    repeat (first | refine gx ?_ | refine gN fun _ => ?_ | refine gB fun _ => ?_ | fail)
    refine aC (o := hF) (h := ?_) (hro := RoIn.own 1 rfl)
    rintro _ _ ⟨rfl, rfl⟩
    refine aG ?_
    repeat (first | refine gh hf ?_ | refine gN fun _ => ?_ | refine gB fun _ => ?_ | fail)
    refine W.groupV [1] rfl ?_
    refine W.ret (fin _ _ (FinOk.first 1 (.tmp rfl .nil) rfl ?_))
    exact ⟨_, rfl, .inl ⟨by omega, rfl, h0⟩⟩
  · have hlt : js.length < m := by omega
    have hw : (at_ + js.length) % m < m := Nat.mod_lt _ (by omega)
    have hsp := splice?_of lx (0 + (at_ + js.length) % m * 6) j.l (by rw [h1]; show 0 + _ * 6 + 6 ≤ m * 6; omega)
    generalize lx.take (0 + (at_ + js.length) % m * 6) ++ j.l ++ lx.drop (0 + (at_ + js.length) % m * 6 + j.l.length) = lx' at hsp
    have hq : QAt m (js ++ [j]) b ([(b, Obj.cells (List.toArray [.slice (some ⟨br, 0, none⟩) m m, .int .i64 (at_ : Int), .int .i64 ((js.length : Int) + 1)]) 93 (0, 0))] ++ [(br, .cells lx'.toArray 76 (0, 0))]) := by
      refine ⟨lx', at_, br, by rw [splice_len hsp, h1], h2, h3, by simp; omega, h5, fun i hi => ?_, by simp⟩
      have hi2 : i < js.length + 1 := by simpa using hi
      by_cases he : i = js.length
      · subst he
        rw [List.getElem_append_right (Nat.le_refl _)]
        simp only [Nat.sub_self, List.getElem_singleton]
        exact seg_splice_eq hsp
      · rw [List.getElem_append_left (by omega)]
        rw [seg_splice_ne hsp ?_ ?_]
        · exact h6 i (by omega)
        · show _ ∨ 0 + _ * 6 + 6 ≤ _
          have e1 := mod2 (x := at_ + i) (m := m) (by omega)
          have e2 := mod2 (x := at_ + js.length) (m := m) (by omega)
          rw [e1, e2]
          split <;> split <;> omega
        · have e1 := mod2 (x := at_ + i) (m := m) (by omega)
          rw [h1, e1]
          split <;> omega
    refine Ctr.enter (n := 35) [.tmp 4] [(0, _), (1, _)] Try.func24 rfl rfl rfl (lb rfl) Try.call24 ⟨rfl, rfl, trivial⟩ ?_
    intro cx fin fin0
    refine aG ?_
    repeat (first | refine gx ?_ | refine gN fun _ => ?_ | refine gB fun _ => ?_ | fail)
    refine aC (o := hF) (h := ?_) (hro := RoIn.own 1 rfl)
    rintro _ _ ⟨rfl, rfl⟩
    refine aG ?_
    repeat (first | refine gh hf ?_ | refine gN fun _ => ?_ | refine gB fun _ => ?_ | fail)
    refine W.order [1, 0] rfl ?_
    refine spl2 rfl ?_
    refine aG ?_
    refine W.drawTail 20 follows (by decide +kernel) (zG ?_)
    repeat (first | refine zL ?_ | (first | refine zGo ?_ | refine zSk ?_ | refine zUn ?_ | fail) | (first | refine zPT ?_ | refine zPF ?_ | fail) | refine zV (OpVal.add rfl rfl (i64_in _ (by omega))) ?_ | refine zV (OpVal.sub rfl rfl (i64_in _ (by omega))) ?_ | refine zV (OpVal.neBool tab_ok rfl rfl rfl) ?_ | refine zV (OpVal.eqBool tab_ok rfl rfl rfl) ?_ | refine zV (OpVal.eqNil tab_ok rfl rfl rfl) ?_ | refine zV (OpVal.neNil tab_ok rfl rfl rfl) ?_ | fail)
    refine zV (OpVal.rem (r := (((at_ + js.length) % m : Nat) : Int)) rfl rfl (by omega) (by rw [← tmodN]; rfl)) ?_
    repeat (first | refine zL ?_ | (first | refine zGo ?_ | refine zSk ?_ | refine zUn ?_ | fail) | (first | refine zPT ?_ | refine zPF ?_ | fail) | refine zV (OpVal.add rfl rfl (i64_in _ (by omega))) ?_ | refine zV (OpVal.sub rfl rfl (i64_in _ (by omega))) ?_ | refine zV (OpVal.neBool tab_ok rfl rfl rfl) ?_ | refine zV (OpVal.eqBool tab_ok rfl rfl rfl) ?_ | refine zV (OpVal.eqNil tab_ok rfl rfl rfl) ?_ | refine zV (OpVal.neNil tab_ok rfl rfl rfl) ?_ | fail)
    refine WZ.nil (aG ?_)
    refine aV (OpVal.ixSl tab_ok rfl rfl rfl rfl rfl hw) ?_
    refine W.store tab_ok rfl (Upd.there Upd.here) rfl rfl rfl rfl rfl hsp (aG ?_)
    repeat (first | refine gx ?_ | refine gN fun _ => ?_ | refine gB fun _ => ?_ | fail)
    refine W.groupV [0, 0] rfl ?_
    refine W.ret (fin _ _ (FinOk.first 1 (.tmp rfl .nil) rfl ?_))
    exact ⟨_, rfl, .inr ⟨hlt, rfl, hq⟩⟩
theorem QTake_spec (m : Nat) (j : Jb) (js : List Jb) (b : Nat) (H : HL) (h : QAt m (j :: js) b H) : Ctr Try.prog 39 [.pointer (some ⟨b, 0, none⟩)] [H] []
    (fun v L' => ∃ H', v = .tuple #[.agg j.l.toArray, .bool true] ∧ L' = [H'] ∧ QAt m js b H') := by
  have hF := QFirst_spec m (j :: js) b H h
  have e1 : (j :: js).headD Jb.zero = j := rfl
  have e2 : decide (0 < (j :: js).length) = true := by simp
  rw [e1, e2] at hF
  obtain ⟨lx, at_, br, h1, h2, h3, h4, h5, h6, rfl⟩ := h
  have hl : (j :: js).length = js.length + 1 := rfl
  have hsp := splice?_of lx (0 + at_ * 6) Jb.zero.l (by rw [h1]; show 0 + _ * 6 + 6 ≤ m * 6; omega)
  have ez : lx.take (0 + at_ * 6) ++ repL 1 Jb.zero.l ++ lx.drop (0 + at_ * 6 + 1 * 6) = lx.take (0 + at_ * 6) ++ Jb.zero.l ++ lx.drop (0 + at_ * 6 + Jb.zero.l.length) := rfl
  generalize lx.take (0 + at_ * 6) ++ Jb.zero.l ++ lx.drop (0 + at_ * 6 + Jb.zero.l.length) = lx' at hsp ez
  have hq : QAt m js b ([(b, Obj.cells (List.toArray [.slice (some ⟨br, 0, none⟩) m m, .int .i64 (((at_ + 1) % m : Nat) : Int), .int .i64 (((j :: js).length : Int) - 1)]) 93 (0, 0))] ++ [(br, .cells lx'.toArray 76 (0, 0))]) := by
    rw [show (((j :: js).length : Int) - 1) = (js.length : Int) by simp]
    refine ⟨lx', (at_ + 1) % m, br, by rw [splice_len hsp, h1], h2, h3, by omega, Nat.mod_lt _ (by omega), fun i hi => ?_, rfl⟩
    have h7 := h6 (i + 1) (by simpa using hi)
    have e3 : ((at_ + 1) % m + i) % m = (at_ + (i + 1)) % m := by rw [Nat.mod_add_mod]; congr 1; omega
    rw [e3, seg_splice_ne hsp ?_ ?_]
    · exact h7
    · show _ ∨ 0 + _ * 6 + 6 ≤ _
      have e1 := mod2 (x := at_ + (i + 1)) (m := m) (by omega)
      rw [e1]
      split <;> omega
    · have e1 := mod2 (x := at_ + (i + 1)) (m := m) (by omega)
      rw [h1, e1]
      split <;> omega
  refine Ctr.enter (n := 49) [.cell 2 76, .tmp 3] [(0, _)] Try.func39 rfl rfl rfl (lb rfl) Try.call39 ⟨rfl, trivial⟩ ?_
  intro cx fin fin0
  refine aG ?_
  repeat (first | refine gx ?_ | refine gN fun _ => ?_ | refine gB fun _ => ?_ | fail)
  refine aC (o := hF) (h := ?_) (hro := RoIn.own 1 rfl)
  rintro _ _ ⟨rfl, rfl⟩
  refine aG ?_
  repeat (first | refine gx ?_ | refine gN fun _ => ?_ | refine gB fun _ => ?_ | fail)
  refine W.order [2, 0, 0] rfl ?_
  refine spl2 rfl ?_
  refine aG ?_
  refine W.drawTail 14 follows (by decide +kernel) (zG ?_)
  repeat (first | refine zL ?_ | (first | refine zGo ?_ | refine zSk ?_ | refine zUn ?_ | fail) | (first | refine zPT ?_ | refine zPF ?_ | fail) | refine zV (OpVal.add rfl rfl (i64_in _ (by omega))) ?_ | refine zV (OpVal.sub rfl rfl (i64_in _ (by omega))) ?_ | refine zV (OpVal.neBool tab_ok rfl rfl rfl) ?_ | refine zV (OpVal.eqBool tab_ok rfl rfl rfl) ?_ | refine zV (OpVal.eqNil tab_ok rfl rfl rfl) ?_ | refine zV (OpVal.neNil tab_ok rfl rfl rfl) ?_ | fail)
  refine zV (OpVal.pieceG (l := at_) (h := at_ + 1) (c := m) tab_ok rfl rfl rfl ⟨_, rfl⟩ ⟨_, rfl⟩ rfl (by omega) (by omega) (by omega)) ?_
  rw [if_neg (show ¬ m = at_ by omega), show at_ + 1 - at_ = 1 by omega]
  refine WZ.nil (aG ?_)
  refine aPu (clearSl (b := br) (m := 6) (ex := 76) (l := lx) (zs := Jb.zero.l) (z := .agg Jb.zero.l.toArray) tab_ok rfl rfl rfl rfl (by decide) rfl (by simp) rfl (by decide) (by rw [h1]; omega)) ?_
  rintro _ _ rfl
  refine aG ?_
  rw [ez]
  refine W.drawTail 12 follows (by decide +kernel) (zG ?_)
  repeat (first | refine zL ?_ | (first | refine zGo ?_ | refine zSk ?_ | refine zUn ?_ | fail) | (first | refine zPT ?_ | refine zPF ?_ | fail) | refine zV (OpVal.add rfl rfl (i64_in _ (by omega))) ?_ | refine zV (OpVal.sub rfl rfl (i64_in _ (by omega))) ?_ | refine zV (OpVal.neBool tab_ok rfl rfl rfl) ?_ | refine zV (OpVal.eqBool tab_ok rfl rfl rfl) ?_ | refine zV (OpVal.eqNil tab_ok rfl rfl rfl) ?_ | refine zV (OpVal.neNil tab_ok rfl rfl rfl) ?_ | fail)
  refine zV (OpVal.rem (r := (((at_ + 1) % m : Nat) : Int)) rfl rfl (by omega) (by rw [← tmodN]; rfl)) ?_
  refine WZ.nil (aG ?_)
  repeat (first | refine gx ?_ | refine gN fun _ => ?_ | refine gB fun _ => ?_ | fail)
  refine W.groupV [1, 0] rfl ?_
  refine W.ret (fin _ _ (FinOk.first 1 (aRc (.tmp rfl .nil)) rfl ?_))
  exact ⟨_, rfl, rfl, hq⟩
end Go.Proofs.Ytfajcpnbhnddbaa
namespace Go.Proofs.Ytfajcpnbhnddbaa
open Go Go.Sl Go.IntWalk
set_option maxHeartbeats 8000000
set_option maxRecDepth 20000
set_option linter.unusedVariables false
structure Ro where
  r : Rs
  a : Option Addr
  n : Nat
  c : Nat
def Ro.l (o : Ro) : List Value := [.int .i64 o.r.id, .int .i64 o.r.errno, .bool o.r.hit, .int .i64 o.r.tick, .slice o.a o.n o.c, .int .u64 o.r.c.h, .int .u64 o.r.c.m, .int .u64 o.r.c.e, .int .u64 o.r.c.r, .int .u64 o.r.c.w, .int .u64 o.r.c.f]
def Jb.j (j : Jb) : Int × Rq := (j.id, ⟨j.op, j.page, j.off, j.len, j.xs⟩)
def tCells (t : Tn) (bm bp bq : Nat) (ao : Option Addr) (lo co : Nat) : List Value := [.pointer (some ⟨bm, 0, none⟩), .pointer (some ⟨bp, 0, none⟩), .pointer (some ⟨bq, 0, none⟩), .int .i64 t.pages, .int .i64 t.ids, .int .u64 t.c.h, .int .u64 t.c.m, .int .u64 t.c.e, .int .u64 t.c.r, .int .u64 t.c.w, .int .u64 t.c.f, .slice ao lo co]
def TAt (d : Nat) (t : Tn) (b bp : Nat) (H : HL) : Prop := ∃ (bm bq : Nat) (ao : Option Addr) (co : Nat) (ls : List Jb) (los : List Ro) (Hm Hq Ho D : HL),
  H = [(b, Obj.cells (List.toArray [.pointer (some ⟨bm, 0, none⟩), .pointer (some ⟨bp, 0, none⟩), .pointer (some ⟨bq, 0, none⟩), .int .i64 t.pages, .int .i64 t.ids, .int .u64 t.c.h, .int .u64 t.c.m, .int .u64 t.c.e, .int .u64 t.c.r, .int .u64 t.c.w, .int .u64 t.c.f, .slice ao los.length co]) 61 (0, 0))] ++ (Hm ++ (Hq ++ (Ho ++ D))) ∧
  MAt t.m bm bp Hm ∧ QAt d ls bq Hq ∧ ls.map Jb.j = t.js ∧ Own 11 65 (los.flatMap Ro.l) ao los.length co Ho ∧ los.map Ro.r = t.out ∧
  (∀ j ∈ ls, ∃ r, RoSl 1 (u8s j.xs) j.a j.xs.length r ∧ ∀ q ∈ r, q ∈ D) ∧ (∀ o ∈ los, ∃ r, RoSl 1 (u8s o.r.data) o.a o.n r ∧ o.r.data.length = o.n ∧ ∀ q ∈ r, q ∈ D)
theorem spl5 {P : Program} {n : Nat} {R : HL} {cx : Cx} {K : List Kont} {ρ : Env} {L M : List HL} {A B C D E : HL} (h : L = (A ++ (B ++ (C ++ (D ++ E)))) :: M) (hk : W P n R cx K ρ (A :: B :: C :: D :: E :: M)) : W P n R cx K ρ L := by
  subst h
  exact W.regroup (by simp) hk
theorem sum2_at {a c : C6} (b : Nat) {e : TypeId} : RoSl 6 ([a, c].flatMap C6.l) (some ⟨b, 0, none⟩) [a, c].length [(b, .cells (List.toArray [.int .u64 a.h, .int .u64 a.m, .int .u64 a.e, .int .u64 a.r, .int .u64 a.w, .int .u64 a.f, .int .u64 c.h, .int .u64 c.m, .int .u64 c.e, .int .u64 c.r, .int .u64 c.w, .int .u64 c.f]) e (0, 0))] :=
  ⟨rfl, .inr ⟨b, 0, _, e, (0, 0), rfl, rfl, Nat.le_refl _, rfl⟩⟩
theorem Tell_spec (d : Nat) (t : Tn) (b bp : Nat) (H : HL) (ht : TAt d t b bp H) (x : Re) (hx : x.done = true → t.js ≠ []) (hc : t.c.Ok) (ha : x.add.Ok) (tick : Int) (a : Option Addr) (n c : Nat) (Hd : HL) (hd : RoSl 1 (u8s x.data) a n Hd) (hn : x.data.length = n) (hout : t.out.length ≤ 1000000) :
    Ctr Try.prog 27 [.pointer (some ⟨b, 0, none⟩), x.v a n c, .int .i64 tick] [H, Hd] [] (fun _ L' => ∃ H', L' = [H'] ∧ TAt d (t.tell x tick) b bp H') := by
  obtain ⟨bm, bq, ao, co, ls, los, Hm, Hq, Ho, D, rfl, hm, hq, hls, hown, hlo, hlj, hll⟩ := ht
  have hlen : los.length ≤ 1000000 := by rw [← hlo, List.length_map] at hout; exact hout
  have hS := fun bs => Sum_spec [t.c, x.add] (fun q hq => by simp only [List.mem_cons, List.not_mem_nil, or_false] at hq; rcases hq with rfl | rfl <;> assumption) (lb rfl) (some ⟨bs, 0, none⟩) 2 _ (sum2_at (e := 38) bs)
  have htl : t.tell x tick = t.tell x tick := rfl
  conv at htl => rhs; unfold Tn.tell
  generalize t.tell x tick = out at *
  obtain ⟨xd, xe, xh, xdat, ⟨k1, k2, k3, k4, k5, k6⟩⟩ := x
  obtain ⟨tm, tp, tjs, tpg, tids, ⟨c1, c2, c3, c4, c5, c6⟩, tout⟩ := t
  simp only at *
  generalize sumC [⟨c1, c2, c3, c4, c5, c6⟩, ⟨k1, k2, k3, k4, k5, k6⟩] = sm at *
  obtain ⟨s1, s2, s3, s4, s5, s6⟩ := sm
  simp only [Re.v]
  refine Ctr.enter (n := 57) [] [(0, _), (1, _), (2, _)] Try.func27 rfl rfl rfl (lb rfl) Try.call27 ⟨rfl, rfl, rfl, trivial⟩ ?_
  intro cx fin fin0
  refine aG ?_
  repeat (first | refine gx ?_ | refine gN fun _ => ?_ | refine gB fun _ => ?_ | fail)
  refine W.order [1, 0, 0] rfl ?_
  refine spl5 rfl ?_
  refine aG ?_
  refine W.drawH tab_ok 12 [.b false, .b false, .b false, .b false, .b true, .b false, .b false, .b true, .b true, .b false, .b false, .b true] [0] follows (by decide +kernel) (by decide +kernel) rfl (by decide) rfl ?_
  intro _
  refine dG ?_
  refine dLA ?_
  repeat (first | refine dL ?_ | refine dS ?_ | (first | refine dGo ?_ | refine dSk ?_ | refine dUn ?_ | fail) | (first | refine dPT ?_ | refine dPF ?_ | fail) | refine dV (OpVal.add rfl rfl (i64_in _ (by omega))) ?_ | refine dV (OpVal.sub rfl rfl (i64_in _ (by omega))) ?_ | refine dV (OpVal.neBool tab_ok rfl rfl rfl) ?_ | refine dV (OpVal.eqBool tab_ok rfl rfl rfl) ?_ | refine dV (OpVal.eqNil tab_ok rfl rfl rfl) ?_ | refine dV (OpVal.neNil tab_ok rfl rfl rfl) ?_ | fail)
  refine dSl (ps := [_, _]) ?_
  intro bs
  refine dG ?_
  refine dC (o := hS bs) (h := ?_) (hro := RoIn.own 0 rfl)
  rintro _ _ ⟨rfl, rfl⟩
  refine dG ?_
  repeat (first | refine dL ?_ | refine dS ?_ | (first | refine dGo ?_ | refine dSk ?_ | refine dUn ?_ | fail) | (first | refine dPT ?_ | refine dPF ?_ | fail) | refine dV (OpVal.add rfl rfl (i64_in _ (by omega))) ?_ | refine dV (OpVal.sub rfl rfl (i64_in _ (by omega))) ?_ | refine dV (OpVal.neBool tab_ok rfl rfl rfl) ?_ | refine dV (OpVal.eqBool tab_ok rfl rfl rfl) ?_ | refine dV (OpVal.eqNil tab_ok rfl rfl rfl) ?_ | refine dV (OpVal.neNil tab_ok rfl rfl rfl) ?_ | fail)
  refine WD.nil (W.dropNil (aG ?_))
  refine W.order [1, 1, 1, 1, 3, 1, 1, 0] rfl ?_
  cases xd with
  | false =>
    rw [if_neg (by simp)] at htl
    subst htl
    repeat (first | refine gx ?_ | refine gN fun _ => ?_ | refine gB fun _ => ?_ | fail)
    refine W.groupV [0, 0, 0, 0, 0, 0] rfl ?_
    refine W.ret (fin _ _ (FinOk.first 1 .nil rfl ?_))
    exact ⟨_, rfl, bm, bq, ao, co, ls, los, Hm, Hq, Ho, Hd ++ D, rfl, hm, hq, hls, hown, hlo, fun j hj => (hlj j hj).imp fun r h => ⟨h.1, fun q hq => List.mem_append_right _ (h.2 q hq)⟩, fun o ho => (hll o ho).imp fun r h => ⟨h.1, h.2.1, fun q hq => List.mem_append_right _ (h.2.2 q hq)⟩⟩
  | true =>
    rw [if_pos rfl] at htl
    cases ls with
    | nil => exact absurd hls.symm (hx rfl)
    | cons j ls =>
      have hT := QTake_spec d j ls bq Hq hq
      have hjl := hlj
      obtain ⟨jid, jop, jpg, joff, jlen, ja, jc, jxs⟩ := j
      have hjd : (tjs.headD noJob) = (jid, ⟨jop, jpg, joff, jlen, jxs⟩) := by rw [← hls]; rfl
      have htj : tjs.tail = ls.map Jb.j := by rw [← hls]; rfl
      rw [hjd, htj] at htl
      simp only at htl
      simp only [Jb.l] at hT
      have hfin : ∀ (sc : C6) (a' : Option Addr) (c' : Nat) (Ho' Hq2 : HL), QAt d ls bq Hq2 → Own 11 65 (los.flatMap Ro.l ++ (⟨⟨jid, xe, xh, tick, xdat, sc⟩, a, n, c⟩ : Ro).l) a' (los.length + 1) c' Ho' →
          TAt d ⟨tm, tp, ls.map Jb.j, tpg, tids, ⟨s1, s2, s3, s4, s5, s6⟩, tout ++ [⟨jid, xe, xh, tick, xdat, sc⟩]⟩ b bp ([(b, Obj.cells (List.toArray [.pointer (some ⟨bm, 0, none⟩), .pointer (some ⟨bp, 0, none⟩), .pointer (some ⟨bq, 0, none⟩), .int .i64 tpg, .int .i64 tids, .int .u64 s1, .int .u64 s2, .int .u64 s3, .int .u64 s4, .int .u64 s5, .int .u64 s6, .slice a' (los.length + 1) c']) 61 (0, 0))] ++ (Hm ++ (Hq2 ++ (Ho' ++ (Hd ++ D))))) := by
        intro sc a' c' Ho' Hq2 hq2 ho
        have el : (los ++ [(⟨⟨jid, xe, xh, tick, xdat, sc⟩, a, n, c⟩ : Ro)]).length = los.length + 1 := by simp
        refine ⟨bm, bq, a', c', ls, los ++ [⟨⟨jid, xe, xh, tick, xdat, sc⟩, a, n, c⟩], Hm, Hq2, Ho', Hd ++ D, by rw [el], hm, hq2, rfl, ?_, ?_, ?_, ?_⟩
        · rw [el, List.flatMap_append, List.flatMap_singleton]; exact ho
        · rw [List.map_append, hlo]; rfl
        · exact fun j hj => (hjl j (List.mem_cons_of_mem _ hj)).imp fun r h => ⟨h.1, fun q hq => List.mem_append_right _ (h.2 q hq)⟩
        · intro o ho
          rcases List.mem_append.1 ho with ho | ho
          · exact (hll o ho).imp fun r h => ⟨h.1, h.2.1, fun q hq => List.mem_append_right _ (h.2.2 q hq)⟩
          · rw [List.mem_singleton.1 ho]
            exact ⟨Hd, hd, hn, fun q hq => List.mem_append_left _ hq⟩
      rcases Classical.em (jop = 8) with h8 | h8
      case' inl => rw [if_pos h8] at htl
      case' inr => rw [if_neg h8] at htl
      all_goals
        subst htl
        repeat (first | refine gx ?_ | refine gN fun _ => ?_ | refine gB fun _ => ?_ | fail)
        refine aC (o := hT) (h := ?_)
        rintro _ _ ⟨Hq2, rfl, rfl, hq2⟩
        refine aG ?_
        repeat (first | refine gh h8 ?_ | refine gN fun _ => ?_ | refine gB fun _ => ?_ | fail)
        refine W.order [3, 3, 2, 2, 2, 2, 0] rfl ?_
        refine W.drawH tab_ok 8 [.b false, .b false, .b false, .b false, .b false, .b false, .b true, .b true] [3] follows (by decide +kernel) (by decide +kernel) rfl (by decide) rfl ?_
        intro _
        refine dG ?_
        repeat (first | refine dL ?_ | refine dS ?_ | (first | refine dGo ?_ | refine dSk ?_ | refine dUn ?_ | fail) | (first | refine dPT ?_ | refine dPF ?_ | fail) | refine dV (OpVal.add rfl rfl (i64_in _ (by omega))) ?_ | refine dV (OpVal.sub rfl rfl (i64_in _ (by omega))) ?_ | refine dV (OpVal.neBool tab_ok rfl rfl rfl) ?_ | refine dV (OpVal.eqBool tab_ok rfl rfl rfl) ?_ | refine dV (OpVal.eqNil tab_ok rfl rfl rfl) ?_ | refine dV (OpVal.neNil tab_ok rfl rfl rfl) ?_ | fail)
        refine dSl (ps := [_]) ?_
        intro bt
        refine dG ?_
        refine dAp (hown) ?_
        rintro _ _ ⟨_, _, _, rfl, rfl, ho⟩
        refine dG ?_
        repeat (first | refine dL ?_ | refine dS ?_ | (first | refine dGo ?_ | refine dSk ?_ | refine dUn ?_ | fail) | (first | refine dPT ?_ | refine dPF ?_ | fail) | refine dV (OpVal.add rfl rfl (i64_in _ (by omega))) ?_ | refine dV (OpVal.sub rfl rfl (i64_in _ (by omega))) ?_ | refine dV (OpVal.neBool tab_ok rfl rfl rfl) ?_ | refine dV (OpVal.eqBool tab_ok rfl rfl rfl) ?_ | refine dV (OpVal.eqNil tab_ok rfl rfl rfl) ?_ | refine dV (OpVal.neNil tab_ok rfl rfl rfl) ?_ | fail)
        refine WD.nil (W.dropNil (aG ?_))
        repeat (first | refine gx ?_ | refine gN fun _ => ?_ | refine gB fun _ => ?_ | fail)
        refine W.groupV [2, 2, 2, 0, 1, 1] rfl ?_
        refine fin0 _ _ (FinOk.first 1 .nil rfl ?_)
        exact ⟨_, rfl, hfin _ _ _ _ _ hq2 ho⟩
end Go.Proofs.Ytfajcpnbhnddbaa
namespace Go.Proofs.Ytfajcpnbhnddbaa
open Go Go.Sl Go.IntWalk
set_option maxHeartbeats 8000000
set_option maxRecDepth 20000
set_option linter.unusedVariables false
theorem _root_.Go.Sl.Ctr.regroup {P : Program} {f : FuncId} {args : List Value} {pre pre' : List HL} {ro : HL} {post : Value → List HL → Prop} (h : Ctr P f args pre ro post) (e : pre.flatten = pre'.flatten) : Ctr P f args pre' ro post :=
  ⟨h.callable, by rw [← e]; exact h.go⟩
def tM (t : Tn) : Nat := t.js.length + (if t.m.todo = [] then 1 else 0)
theorem tM_begun {t : Tn} (ht : t.m.todo = []) (hj : t.js ≠ []) (tick : Int) : tM (t.begun tick) < tM t := by
  have h0 : 0 < t.js.length := List.length_pos_iff.2 hj
  unfold tM
  rw [if_pos ht]
  rcases begun_step ht hj tick with ⟨h1, h2⟩ | ⟨h1, h2⟩
  · rw [if_pos h1, h2, List.length_tail]; omega
  · rw [if_neg h1, h2]; omega
theorem tell_ids (t : Tn) (x : Re) (tick : Int) : (t.tell x tick).ids = t.ids := by unfold Tn.tell; split <;> rfl
theorem begun_ids (t : Tn) (tick : Int) : (t.begun tick).ids = t.ids := tell_ids _ _ _
theorem run_ids (tick : Int) : ∀ (n : Nat) (t : Tn), (t.run tick n).ids = t.ids
  | 0, t => rfl
  | n + 1, t => by
    unfold Tn.run
    split
    · rw [run_ids tick n, begun_ids]
    · rfl
theorem Run_spec (d : Nat) (t : Tn) (hi : TInv d t) (hid : t.ids ≤ 1000000) (b bp : Nat) (H : HL) (ht : TAt d t b bp H) (Hp : HL) (hp : PtAt t.p bp Hp) (tick : Int) :
    Ctr Try.prog 26 [.pointer (some ⟨b, 0, none⟩), .int .i64 tick] [H, Hp] [] (fun _ L' => ∃ H' Hp', L' = [H', Hp'] ∧ TAt d (t.go tick) b bp H' ∧ PtAt (t.go tick).p bp Hp') := by
  generalize hres : t.go tick = res
  refine Ctr.enter (n := 32) [] [(0, _), (1, _)] Try.func26 rfl rfl rfl (lb rfl) Try.call26 ⟨rfl, rfl, trivial⟩ ?_
  intro cx fin fin0
  refine aG ?_
  refine aLp (fun k ρ1 L1 => ∃ (t' : Tn) (H' Hp' : HL), TInv d t' ∧ t'.ids ≤ 1000000 ∧ res = t'.go tick ∧ TAt d t' b bp H' ∧ PtAt t'.p bp Hp' ∧ k = tM t' ∧ ρ1 = [(0, .pointer (some ⟨b, 0, none⟩)), (1, .int .i64 tick)] ∧ L1 = [H', Hp']) (o := ⟨t, H, Hp, hi, hid, hres.symm, ht, hp, rfl, rfl, rfl⟩) (h := ?_)
  clear ht hp hi hid hres t H Hp
  rintro k ρ1 L1 ⟨t, H, Hp, hi, hid, rfl, ht, hp, rfl, rfl, rfl⟩
  have hta := ht
  obtain ⟨bm, bq, ao, co, ls, los, Hm, Hq, Ho, D, rfl, hm, hq, hls, hown, hlo, hlj, hll⟩ := ht
  have hB := Busy_spec t.m bm bp Hm hm
  have hF := QFirst_spec d ls bq Hq hq
  refine spl5 rfl ?_
  refine aG ?_
  repeat (first | refine gx ?_ | refine gN fun _ => ?_ | refine gB fun _ => ?_ | fail)
  refine aC (o := hB) (h := ?_) (hro := RoIn.own 1 rfl)
  rintro _ _ ⟨rfl, rfl⟩
  refine aG ?_
  repeat (first | refine gx ?_ | refine gN fun _ => ?_ | refine gB fun _ => ?_ | fail)
  rcases Classical.em (t.m.todo = []) with h0 | h0
  case' inr =>
    have hz : 0 < ((t.m.todo.length : Nat) : Int) := by have := List.length_pos_iff.2 h0; omega
    repeat (first | refine gh hz ?_ | refine gN fun _ => ?_ | refine gB fun _ => ?_ | fail)
    refine W.groupV [0, 0, 0, 0, 0] rfl ?_
    refine fin0 _ _ (FinOk.first 2 .nil rfl ?_)
    rw [go_quiet (.inl h0)]
    exact ⟨_, _, rfl, hta, hp⟩
  have hz : ¬ 0 < ((t.m.todo.length : Nat) : Int) := by rw [h0]; decide
  repeat (first | refine gh hz ?_ | refine gN fun _ => ?_ | refine gB fun _ => ?_ | fail)
  refine aC (o := hF) (h := ?_) (hro := RoIn.own 2 rfl)
  rintro _ _ ⟨rfl, rfl⟩
  refine aG ?_
  cases ls with
  | nil =>
    repeat (first | refine gx ?_ | refine gN fun _ => ?_ | refine gB fun _ => ?_ | fail)
    refine W.groupV [1, 1, 1, 1, 1] rfl ?_
    refine W.order [0, 1] rfl ?_
    refine W.ret (fin _ _ (FinOk.first 2 .nil rfl ?_))
    rw [go_quiet (.inr hls.symm)]
    exact ⟨_, _, rfl, hta, hp⟩
  | cons j ls =>
    have hne : t.js ≠ [] := by rw [← hls]; simp
    have hhd : t.js.headD noJob = j.j := by rw [← hls]; rfl
    have hJ := hi.jok _ (head_mem hne)
    rw [hhd] at hJ
    obtain ⟨rj, hrj, hsub⟩ := hlj j (by simp)
    have hbi := begun_inv hi h0 hne tick
    have hbm := tM_begun h0 hne tick
    have hbd := begun_ids t tick
    rw [go_begun h0 hne tick]
    have hd := begin_done (p := t.p) h0 j.j.2
    have hbg : t.begun tick = ({ t with m := (mBegin t.m t.p j.j.2).1, p := (mBegin t.m t.p j.j.2).2.1 } : Tn).tell (mBegin t.m t.p j.j.2).2.2 tick := by unfold Tn.begun; rw [hhd]
    have hBg := Begin_spec t.m bm bp Hm hm t.p hi.mi.inv Hp hp j.j.2 hJ.ok.op.1 hJ.ok.op.2 hJ.ok.off j.a j.cap rj hrj
    have hout : t.out.length ≤ 1000000 := by have := hi.ids; omega
    have hT : ∀ (an : Option Addr) (nn cn : Nat) (H' Hd : HL), MAt (mBegin t.m t.p j.j.2).1 bm bp H' → RoSl 1 (u8s (mBegin t.m t.p j.j.2).2.2.data) an nn Hd → (mBegin t.m t.p j.j.2).2.2.data.length = nn → Ctr Try.prog 27 [.pointer (some ⟨b, 0, none⟩), (mBegin t.m t.p j.j.2).2.2.v an nn cn, .int .i64 tick]
        [[(b, Obj.cells (List.toArray [.pointer (some ⟨bm, 0, none⟩), .pointer (some ⟨bp, 0, none⟩), .pointer (some ⟨bq, 0, none⟩), .int .i64 t.pages, .int .i64 t.ids, .int .u64 t.c.h, .int .u64 t.c.m, .int .u64 t.c.e, .int .u64 t.c.r, .int .u64 t.c.w, .int .u64 t.c.f, .slice ao los.length co]) 61 (0, 0))], H', Hq, Ho, D, Hd] [] (fun _ L' => ∃ H', L' = [H'] ∧ TAt d (t.begun tick) b bp H') := fun an nn cn H' Hd g1 g3 g4 => by
      rw [hbg]
      exact (Tell_spec d ({ t with m := (mBegin t.m t.p j.j.2).1, p := (mBegin t.m t.p j.j.2).2.1 } : Tn) b bp _ ⟨bm, bq, ao, co, j :: ls, los, H', Hq, Ho, D, rfl, g1, hq, hls, hown, hlo, hlj, hll⟩ (mBegin t.m t.p j.j.2).2.2 (fun _ => hne) hi.cok hd.1 tick an nn cn Hd g3 g4 hout).regroup (by simp)
    have hbp : ∀ Hp', PtAt (mBegin t.m t.p j.j.2).2.1 bp Hp' → PtAt (t.begun tick).p bp Hp' := fun Hp' h => by
      rw [hbg]; unfold Tn.tell; split <;> exact h
    generalize t.begun tick = t2 at *
    generalize mBegin t.m t.p j.j.2 = mb at *
    repeat (first | refine gx ?_ | refine gN fun _ => ?_ | refine gB fun _ => ?_ | fail)
    refine W.order [1, 1, 1, 1, 1, 1, 0] rfl ?_
    refine W.drawH tab_ok 10 [.b false, .b false, .b false, .b false, .b true, .b false, .b false, .b true, .b false, .b true] [0,1,2,3,4,5] follows (by decide +kernel) (by decide +kernel) rfl (by decide) rfl ?_
    intro _
    refine dG ?_
    refine dLA ?_
    repeat (first | refine dL ?_ | refine dS ?_ | (first | refine dGo ?_ | refine dSk ?_ | refine dUn ?_ | fail) | (first | refine dPT ?_ | refine dPF ?_ | fail) | refine dV (OpVal.add rfl rfl (i64_in _ (by omega))) ?_ | refine dV (OpVal.sub rfl rfl (i64_in _ (by omega))) ?_ | refine dV (OpVal.neBool tab_ok rfl rfl rfl) ?_ | refine dV (OpVal.eqBool tab_ok rfl rfl rfl) ?_ | refine dV (OpVal.eqNil tab_ok rfl rfl rfl) ?_ | refine dV (OpVal.neNil tab_ok rfl rfl rfl) ?_ | fail)
    refine dC (o := hBg) (h := ?_) (hro := (fun q hq => .inl (by simp [hsub q hq])))
    rintro _ _ ⟨an, nn, cn, H', Hp', Hd, rfl, rfl, g1, g2, g3, g4⟩
    refine dG ?_
    repeat (first | refine dL ?_ | refine dS ?_ | (first | refine dGo ?_ | refine dSk ?_ | refine dUn ?_ | fail) | (first | refine dPT ?_ | refine dPF ?_ | fail) | refine dV (OpVal.add rfl rfl (i64_in _ (by omega))) ?_ | refine dV (OpVal.sub rfl rfl (i64_in _ (by omega))) ?_ | refine dV (OpVal.neBool tab_ok rfl rfl rfl) ?_ | refine dV (OpVal.eqBool tab_ok rfl rfl rfl) ?_ | refine dV (OpVal.eqNil tab_ok rfl rfl rfl) ?_ | refine dV (OpVal.neNil tab_ok rfl rfl rfl) ?_ | fail)
    refine dC (o := hT an nn cn H' Hd g1 g3 g4) (h := ?_)
    rintro _ _ ⟨H2, rfl, ht2⟩
    refine dG ?_
    refine WD.nil (W.dropNil (aG ?_))
    refine aR (o := ⟨tM t2, hbm, t2, H2, Hp', hbi, by omega, rfl, ht2, hbp _ g2, rfl, rfl, rfl⟩)
end Go.Proofs.Ytfajcpnbhnddbaa
namespace Go.Proofs.Ytfajcpnbhnddbaa
open Go Go.Sl Go.IntWalk
set_option maxHeartbeats 8000000
set_option maxRecDepth 20000
set_option linter.unusedVariables false
theorem Submit_spec (d : Nat) (t : Tn) (hi : TInv d t) (hid : t.ids < 1000000) (b bp : Nat) (H : HL) (ht : TAt d t b bp H) (Hp : HL) (hp : PtAt t.p bp Hp) (q : Rq) (hu : u8ok q.data) (hl : q.data.length ≤ 1000000) (hoi : i64s q.off) (hop : i64s q.op) (hq : rcheck q t.pages = 0 → JOk q) (aq : Option Addr) (cq : Nat) (rq : HL) (hrq : RoSl 1 (u8s q.data) aq q.data.length rq) (tick : Int) :
    Ctr Try.prog 12 [.pointer (some ⟨b, 0, none⟩), q.v aq cq, .int .i64 tick] [H, Hp] rq (fun v L' => ∃ H' Hp', v = .tuple #[.int .i64 (t.submit d q tick).2.1, .int .i64 (t.submit d q tick).2.2] ∧ L' = [H', Hp'] ∧ TAt d (t.submit d q tick).1 b bp H' ∧ PtAt (t.submit d q tick).1.p bp Hp') := by
  have hta := ht
  obtain ⟨bm, bq, ao, co, ls, los, Hm, Hq, Ho, D, rfl, hm, hqa, hls, hown, hlo, hlj, hll⟩ := ht
  have hC := Check_spec q t.pages hu hl aq cq rq hrq hoi hop
  have hCl := RClone_spec q hl aq cq rq hrq
  have hlen : ls.length = t.js.length := by rw [← hls, List.length_map]
  have hids := hi.ids
  have hput := fun h hd => put_inv hi (hq h) hd
  have hsub : t.submit d q tick = t.submit d q tick := rfl
  conv at hsub => rhs; unfold Tn.submit
  generalize t.submit d q tick = out at *
  obtain ⟨qo, qp, qf, ql, qd⟩ := q
  have hP := fun a' c' => QPut_spec d ls bq Hq hqa ⟨t.ids + 1, qo, qp, qf, ql, a', c', qd⟩
  simp only [Rq.v] at hC hCl ⊢
  generalize rcheck ⟨qo, qp, qf, ql, qd⟩ t.pages = rc at *
  refine Ctr.enter (n := 51) [.tmp 6, .tmp 7] [(0, _), (1, _), (2, _)] Try.func12 rfl rfl rfl (lb rfl) Try.call12 ⟨rfl, rfl, rfl, trivial⟩ ?_
  intro cx fin fin0
  refine aG ?_
  repeat (first | refine gx ?_ | refine gN fun _ => ?_ | refine gB fun _ => ?_ | fail)
  refine W.order [1, 1, 0] rfl ?_
  refine spl5 rfl ?_
  refine aG ?_
  refine W.draw follows (by decide +kernel) (zG ?_)
  repeat (first | refine zL ?_ | (first | refine zGo ?_ | refine zSk ?_ | refine zUn ?_ | fail) | (first | refine zPT ?_ | refine zPF ?_ | fail) | refine zV (OpVal.add rfl rfl (i64_in _ (by omega))) ?_ | refine zV (OpVal.sub rfl rfl (i64_in _ (by omega))) ?_ | refine zV (OpVal.neBool tab_ok rfl rfl rfl) ?_ | refine zV (OpVal.eqBool tab_ok rfl rfl rfl) ?_ | refine zV (OpVal.eqNil tab_ok rfl rfl rfl) ?_ | refine zV (OpVal.neNil tab_ok rfl rfl rfl) ?_ | fail)
  refine zC (o := hC) (h := ?_) (hro := RoIn.same)
  repeat (first | refine zL ?_ | (first | refine zGo ?_ | refine zSk ?_ | refine zUn ?_ | fail) | (first | refine zPT ?_ | refine zPF ?_ | fail) | refine zV (OpVal.add rfl rfl (i64_in _ (by omega))) ?_ | refine zV (OpVal.sub rfl rfl (i64_in _ (by omega))) ?_ | refine zV (OpVal.neBool tab_ok rfl rfl rfl) ?_ | refine zV (OpVal.eqBool tab_ok rfl rfl rfl) ?_ | refine zV (OpVal.eqNil tab_ok rfl rfl rfl) ?_ | refine zV (OpVal.neNil tab_ok rfl rfl rfl) ?_ | fail)
  refine WZ.nil (aG ?_)
  rcases Classical.em (rc = 0) with h0 | h0
  case' inr =>
    rw [if_pos h0] at hsub
    subst hsub
    repeat (first | refine gh h0 ?_ | refine gN fun _ => ?_ | refine gB fun _ => ?_ | fail)
    refine W.groupV [0, 0, 0, 0, 0] rfl ?_
    refine W.order [0, 0] rfl ?_
    refine W.ret (fin _ _ (FinOk.first 2 (.tmp rfl (.tmp rfl .nil)) rfl ?_))
    exact ⟨_, _, rfl, rfl, hta, hp⟩
  rw [if_neg (fun h => h h0)] at hsub
  repeat (first | refine gh h0 ?_ | refine gN fun _ => ?_ | refine gB fun _ => ?_ | fail)
  refine W.drawH tab_ok 14 [.b false, .b false, .b false, .b false, .b false, .b false, .b false, .b false, .b false, .b false, .b true, .b false, .b true, .b false] [2] follows (by decide +kernel) (by decide +kernel) rfl (by decide) rfl ?_
  intro _
  refine dG ?_
  repeat (first | refine dL ?_ | refine dS ?_ | (first | refine dGo ?_ | refine dSk ?_ | refine dUn ?_ | fail) | (first | refine dPT ?_ | refine dPF ?_ | fail) | refine dV (OpVal.add rfl rfl (i64_in _ (by omega))) ?_ | refine dV (OpVal.sub rfl rfl (i64_in _ (by omega))) ?_ | refine dV (OpVal.neBool tab_ok rfl rfl rfl) ?_ | refine dV (OpVal.eqBool tab_ok rfl rfl rfl) ?_ | refine dV (OpVal.eqNil tab_ok rfl rfl rfl) ?_ | refine dV (OpVal.neNil tab_ok rfl rfl rfl) ?_ | fail)
  refine dC (o := hCl) (h := ?_) (hro := RoIn.all (fun q hq => by simp [hq]))
  rintro _ _ ⟨a2, c2, H2, rfl, rfl, hr2⟩
  refine dG ?_
  repeat (first | refine dL ?_ | refine dS ?_ | (first | refine dGo ?_ | refine dSk ?_ | refine dUn ?_ | fail) | (first | refine dPT ?_ | refine dPF ?_ | fail) | refine dV (OpVal.add rfl rfl (i64_in _ (by omega))) ?_ | refine dV (OpVal.sub rfl rfl (i64_in _ (by omega))) ?_ | refine dV (OpVal.neBool tab_ok rfl rfl rfl) ?_ | refine dV (OpVal.eqBool tab_ok rfl rfl rfl) ?_ | refine dV (OpVal.eqNil tab_ok rfl rfl rfl) ?_ | refine dV (OpVal.neNil tab_ok rfl rfl rfl) ?_ | fail)
  refine dV (OpVal.build (ps := [_, _]) tab_ok rfl rfl rfl rfl (by repeat (first | exact trivial | refine ⟨⟨_, _, _, rfl, rfl, rfl⟩, ?_⟩)) rfl) ?_
  refine dC (o := hP a2 c2) (h := ?_)
  rintro _ _ ⟨Hq2, rfl, ⟨g1, rfl, g2⟩ | ⟨g1, rfl, g2⟩⟩
  refine dG ?_
  · repeat (first | refine dL ?_ | refine dS ?_ | (first | refine dGo ?_ | refine dSk ?_ | refine dUn ?_ | fail) | (first | refine dPT ?_ | refine dPF ?_ | fail) | refine dV (OpVal.add rfl rfl (i64_in _ (by omega))) ?_ | refine dV (OpVal.sub rfl rfl (i64_in _ (by omega))) ?_ | refine dV (OpVal.neBool tab_ok rfl rfl rfl) ?_ | refine dV (OpVal.eqBool tab_ok rfl rfl rfl) ?_ | refine dV (OpVal.eqNil tab_ok rfl rfl rfl) ?_ | refine dV (OpVal.neNil tab_ok rfl rfl rfl) ?_ | fail)
    refine WD.nil (W.dropNil (aG ?_))
    repeat (first | refine gx ?_ | refine gN fun _ => ?_ | refine gB fun _ => ?_ | fail)
    have hf : d ≤ t.js.length := by omega
    rw [if_pos hf] at hsub
    subst hsub
    refine W.groupV [2, 2, 0, 1, 1] rfl ?_
    refine W.order [0, 1] rfl ?_
    refine W.ret (fin _ _ (FinOk.first 2 (.tmp rfl (.tmp rfl .nil)) rfl ?_))
    exact ⟨_, _, rfl, rfl, ⟨bm, bq, ao, co, ls, los, Hm, Hq2, Ho, _, rfl, hm, g2, hls, hown, hlo, hlj, hll⟩, hp⟩
  · refine dG ?_
    repeat (first | refine dL ?_ | refine dS ?_ | (first | refine dGo ?_ | refine dSk ?_ | refine dUn ?_ | fail) | (first | refine dPT ?_ | refine dPF ?_ | fail) | refine dV (OpVal.add rfl rfl (i64_in _ (by omega))) ?_ | refine dV (OpVal.sub rfl rfl (i64_in _ (by omega))) ?_ | refine dV (OpVal.neBool tab_ok rfl rfl rfl) ?_ | refine dV (OpVal.eqBool tab_ok rfl rfl rfl) ?_ | refine dV (OpVal.eqNil tab_ok rfl rfl rfl) ?_ | refine dV (OpVal.neNil tab_ok rfl rfl rfl) ?_ | fail)
    refine WD.nil (W.dropNil (aG ?_))
    repeat (first | refine gx ?_ | refine gN fun _ => ?_ | refine gB fun _ => ?_ | fail)
    have hf : ¬ d ≤ t.js.length := by omega
    rw [if_neg hf] at hsub
    subst hsub
    have hTA : TAt d { t with js := t.js ++ [(t.ids + 1, ⟨qo, qp, qf, ql, qd⟩)], ids := t.ids + 1 } b bp ([(b, Obj.cells (List.toArray [.pointer (some ⟨bm, 0, none⟩), .pointer (some ⟨bp, 0, none⟩), .pointer (some ⟨bq, 0, none⟩), .int .i64 t.pages, .int .i64 (t.ids + 1), .int .u64 t.c.h, .int .u64 t.c.m, .int .u64 t.c.e, .int .u64 t.c.r, .int .u64 t.c.w, .int .u64 t.c.f, .slice ao los.length co]) 61 (0, 0))] ++ (Hm ++ (Hq2 ++ (Ho ++ (H2 ++ D))))) := by
      refine ⟨bm, bq, ao, co, _, los, Hm, Hq2, Ho, H2 ++ D, rfl, hm, g2, by rw [List.map_append, hls]; rfl, hown, hlo, fun j hj => ?_, fun o ho => (hll o ho).imp fun r h => ⟨h.1, h.2.1, fun q hq => List.mem_append_right _ (h.2.2 q hq)⟩⟩
      rcases List.mem_append.1 hj with hj | hj
      · exact (hlj j hj).imp fun r h => ⟨h.1, fun q hq => List.mem_append_right _ (h.2 q hq)⟩
      · rw [List.mem_singleton.1 hj]
        exact ⟨H2, hr2, fun q hq => List.mem_append_left _ hq⟩
    have hR := Run_spec d _ (hput h0 hf) (by show t.ids + 1 ≤ 1000000; omega) b bp _ hTA Hp hp tick
    refine W.groupV [2, 2, 0, 1, 0, 0] rfl ?_
    refine aC (o := hR) (h := ?_)
    rintro _ _ ⟨H3, Hp3, rfl, ht3, hp3⟩
    refine aG ?_
    repeat (first | refine gx ?_ | refine gN fun _ => ?_ | refine gB fun _ => ?_ | fail)
    refine W.ret (fin _ _ (FinOk.first 2 (.tmp rfl (.tmp rfl .nil)) rfl ?_))
    exact ⟨_, _, rfl, rfl, ht3, hp3⟩
theorem Over_spec (d : Nat) (t : Tn) (hi : TInv d t) (hid : t.ids ≤ 1000000) (hb : t.m.todo ≠ []) (b bp : Nat) (H : HL) (ht : TAt d t b bp H) (Hp : HL) (hp : PtAt t.p bp Hp) (e : Int) (bs : List Int) (hu : e = 0 → u8ok bs ∧ bs.length = 16) (ab : Option Addr) (cb : Nat) (rb : HL) (hrb : RoSl 1 (u8s bs) ab bs.length rb) (tick : Int) :
    Ctr Try.prog 14 [.pointer (some ⟨b, 0, none⟩), .int .i64 e, .slice ab bs.length cb, .int .i64 tick] [H, Hp] rb (fun _ L' => ∃ H' Hp', L' = [H', Hp'] ∧ TAt d (t.over e bs tick) b bp H' ∧ PtAt (t.over e bs tick).p bp Hp') := by
  obtain ⟨bm, bq, ao, co, ls, los, Hm, Hq, Ho, D, rfl, hm, hqa, hls, hown, hlo, hlj, hll⟩ := ht
  have hd := end_done t.m t.p e bs
  have hne := hi.bz hb
  have hE := End_spec t.m hb bm bp Hm hm t.p hi.mi.inv Hp hp e bs ab cb rb hrb (fun h => ⟨got_len hi.mi (hu h).2, (mStep_inv hi.mi hb (hu h).1 (hu h).2).1, end_load_inv hi.mi hb (hu h).1 (hu h).2 _ _⟩)
  have hdat := mEnd_data t.m t.p e bs
  have hT1 := tell_inv hi hne (end_invE hi.mi hb e hu) hd.1 hd.2.1 tick
  have hT := fun Hm' (g1 : MAt (mEnd t.m t.p e bs).1 bm bp Hm') => Tell_spec d ({ t with m := (mEnd t.m t.p e bs).1, p := (mEnd t.m t.p e bs).2.1 } : Tn) b bp _ ⟨bm, bq, ao, co, ls, los, Hm', Hq, Ho, D, rfl, g1, hqa, hls, hown, hlo, hlj, hll⟩ (mEnd t.m t.p e bs).2.2 (fun _ => hne) hi.cok hd.1 tick none 0 0 [] (by rw [hdat]; exact ⟨rfl, .inl ⟨rfl, rfl⟩⟩) (by rw [hdat]; rfl) (by have := hi.ids; show t.out.length ≤ 1000000; omega)
  have hbp : ∀ Hp', PtAt (mEnd t.m t.p e bs).2.1 bp Hp' → PtAt (({ t with m := (mEnd t.m t.p e bs).1, p := (mEnd t.m t.p e bs).2.1 } : Tn).tell (mEnd t.m t.p e bs).2.2 tick).p bp Hp' := fun Hp' h => by
    unfold Tn.tell; split <;> exact h
  have hide := tell_ids ({ t with m := (mEnd t.m t.p e bs).1, p := (mEnd t.m t.p e bs).2.1 } : Tn) (mEnd t.m t.p e bs).2.2 tick
  unfold Tn.over
  generalize ({ t with m := (mEnd t.m t.p e bs).1, p := (mEnd t.m t.p e bs).2.1 } : Tn).tell (mEnd t.m t.p e bs).2.2 tick = t2 at *
  simp only at hide
  generalize mEnd t.m t.p e bs = me at *
  have hR := fun H2 ht2 Hp2 hp2 => Run_spec d t2 hT1 (by omega) b bp H2 ht2 Hp2 hp2 tick
  refine Ctr.enter (n := 21) [] [(0, _), (1, _), (2, _), (3, _)] Try.func14 rfl rfl rfl (lb rfl) Try.call14 ⟨rfl, rfl, rfl, rfl, trivial⟩ ?_
  intro cx fin fin0
  refine aG ?_
  refine spl5 rfl ?_
  refine aG ?_
  repeat (first | refine gx ?_ | refine gN fun _ => ?_ | refine gB fun _ => ?_ | fail)
  refine aC (o := hE) (h := ?_) (hro := RoIn.same)
  rintro _ _ ⟨Hm2, Hp2, rfl, rfl, g1, g2⟩
  refine aG ?_
  repeat (first | refine gx ?_ | refine gN fun _ => ?_ | refine gB fun _ => ?_ | fail)
  refine W.groupV [2, 0, 1, 1, 1] rfl ?_
  refine W.nilChunk ?_
  refine aC (o := hT Hm2 g1) (h := ?_)
  rintro _ _ ⟨H2, rfl, ht2⟩
  refine aG ?_
  repeat (first | refine gx ?_ | refine gN fun _ => ?_ | refine gB fun _ => ?_ | fail)
  refine aC (o := hR H2 ht2 Hp2 (hbp Hp2 g2)) (h := ?_)
  rintro _ _ ⟨H3, Hp3, rfl, ht3, hp3⟩
  refine aG ?_
  repeat (first | refine gx ?_ | refine gN fun _ => ?_ | refine gB fun _ => ?_ | fail)
  refine fin0 _ _ (FinOk.first 2 .nil rfl ?_)
  exact ⟨_, _, rfl, ht3, hp3⟩
theorem Out_spec (d : Nat) (t : Tn) (b bp : Nat) (H : HL) (ht : TAt d t b bp H) : Ctr Try.prog 15 [.pointer (some ⟨b, 0, none⟩)] [H] []
    (fun v L' => ∃ (los : List Ro) (a : Option Addr) (c : Nat) (H' Ho D : HL), v = .slice a los.length c ∧ L' = [H', Ho] ∧ TAt d t.taken b bp H' ∧ los.map Ro.r = t.out ∧ RoSl 11 (los.flatMap Ro.l) a los.length Ho ∧ (∀ q ∈ D, q ∈ H') ∧ (∀ o ∈ los, ∃ r, RoSl 1 (u8s o.r.data) o.a o.n r ∧ o.r.data.length = o.n ∧ ∀ q ∈ r, q ∈ D)) := by
  obtain ⟨bm, bq, ao, co, ls, los, Hm, Hq, Ho, D, rfl, hm, hqa, hls, hown, hlo, hlj, hll⟩ := ht
  refine Ctr.enter (n := 12) [.tmp 2] [(0, _)] Try.func15 rfl rfl rfl (lb rfl) Try.call15 ⟨rfl, trivial⟩ ?_
  intro cx fin fin0
  refine aG ?_
  refine spl5 rfl ?_
  refine aG ?_
  repeat (first | refine gx ?_ | refine gN fun _ => ?_ | refine gB fun _ => ?_ | fail)
  refine W.nilChunk ?_
  refine W.groupV [1, 1, 1, 0, 1] rfl ?_
  refine W.order [0, 0] rfl ?_
  refine W.ret (fin _ _ (FinOk.first 2 (.tmp rfl .nil) rfl ?_))
  exact ⟨los, ao, co, _, Ho, D, rfl, rfl, ⟨bm, bq, none, 0, ls, [], Hm, Hq, [], D, rfl, hm, hqa, hls, Own.nil 11 _, rfl, hlj, fun _ h => (by cases h)⟩, hlo, Own.roSl hown, fun q hq => by simp [hq], hll⟩
theorem Count_spec (d : Nat) (t : Tn) (b bp : Nat) (H : HL) (ht : TAt d t b bp H) : Ctr Try.prog 16 [.pointer (some ⟨b, 0, none⟩)] [] H (fun v L' => v = t.c.v ∧ L' = []) := by
  obtain ⟨bm, bq, ao, co, ls, los, Hm, Hq, Ho, D, rfl, hm, hqa, hls, hown, hlo, hlj, hll⟩ := ht
  refine Ctr.enter (n := 7) [.cell 2 38] [(0, _)] Try.func16 rfl rfl rfl (lb rfl) Try.call16 ⟨rfl, trivial⟩ ?_
  intro cx fin fin0
  refine aG ?_
  repeat (first | refine gx ?_ | refine gN fun _ => ?_ | refine gB fun _ => ?_ | fail)
  refine W.ret (fin _ _ (FinOk.first 0 (aRc .nil) rfl ?_))
  exact ⟨rfl, rfl⟩
theorem Waits_spec (d : Nat) (t : Tn) (b bp : Nat) (H : HL) (ht : TAt d t b bp H) : Ctr Try.prog 17 [.pointer (some ⟨b, 0, none⟩)] [] H (fun v L' => v = .int .i64 (t.js.length : Int) ∧ L' = []) := by
  obtain ⟨bm, bq, ao, co, ls, los, Hm, Hq, Ho, D, rfl, hm, hqa, hls, hown, hlo, hlj, hll⟩ := ht
  have hL := QLen_spec d ls bq Hq hqa
  have hlen : ls.length = t.js.length := by rw [← hls, List.length_map]
  rw [hlen] at hL
  refine Ctr.enter (n := 8) [.tmp 2] [(0, _)] Try.func17 rfl rfl rfl (lb rfl) Try.call17 ⟨rfl, trivial⟩ ?_
  intro cx fin fin0
  refine aG ?_
  repeat (first | refine gx ?_ | refine gN fun _ => ?_ | refine gB fun _ => ?_ | fail)
  refine aC (o := hL) (h := ?_) (hro := RoIn.all (fun q hq => by simp [hq]))
  rintro _ _ ⟨rfl, rfl⟩
  refine aG ?_
  repeat (first | refine gx ?_ | refine gN fun _ => ?_ | refine gB fun _ => ?_ | fail)
  refine W.ret (fin _ _ (FinOk.first 0 (.tmp rfl .nil) rfl ?_))
  exact ⟨rfl, rfl⟩
theorem TNew_spec (n d : Nat) (h1 : 1 ≤ d) (h8 : d ≤ 8) (pages : Int) (hp1 : 1 ≤ pages) (hp64 : pages ≤ 64) (bp : Nat) : Ctr Try.prog 8 [.pointer (some ⟨bp, 0, none⟩), .int .i64 (d : Int), .int .i64 pages] [] []
    (fun v L' => ∃ b H, v = .tuple #[.pointer (some ⟨b, 0, none⟩), .int .i64 0] ∧ L' = [H] ∧ TAt d (Tn.new n pages) b bp H) := by
  have k1 : ¬ (d : Int) < 1 := by omega
  have k2 : ¬ (d : Int) > 8 := by omega
  have k3 : ¬ pages < 1 := by omega
  have k4 : ¬ pages > 64 := by omega
  have hQ := QNew_spec d h1 h8
  have hM := MNew_spec bp
  refine Ctr.enter (n := 37) [.tmp 6, .tmp 7] [(0, _), (1, _), (2, _)] Try.func8 rfl rfl rfl (lb rfl) Try.call8 ⟨rfl, rfl, rfl, trivial⟩ ?_
  intro cx fin fin0
  refine aG ?_
  repeat (first | refine gh (gc4 k1 k2 k3 k4) ?_ | refine gN fun _ => ?_ | refine gB fun _ => ?_ | fail)
  refine aC (o := hQ) (h := ?_)
  rintro _ _ ⟨bq, Hq, rfl, rfl, hq⟩
  refine aG ?_
  repeat (first | refine gx ?_ | refine gN fun _ => ?_ | refine gB fun _ => ?_ | fail)
  refine aC (o := hM) (h := ?_)
  rintro _ _ ⟨bm, Hm, rfl, rfl, hm⟩
  refine aG ?_
  repeat (first | refine gx ?_ | refine gN fun _ => ?_ | refine gB fun _ => ?_ | fail)
  refine aBu (ps := [_, _, _, _]) ?_
  repeat (first | refine gx ?_ | refine gN fun _ => ?_ | refine gB fun _ => ?_ | fail)
  refine W.nilChunk ?_
  refine W.nilChunk ?_
  refine W.groupV [2, 2, 2, 0, 0] rfl ?_
  refine W.ret (fin _ _ (FinOk.first 1 (.tmp rfl (.tmp rfl .nil)) rfl ?_))
  exact ⟨_, _, rfl, rfl, bm, bq, none, 0, [], [], Hm, Hq, [], [], rfl, hm, hq, rfl, Own.nil 11 _, rfl, fun _ h => (by cases h), fun _ h => (by cases h)⟩
theorem TNewBad_spec (d pages : Int) (h : ¬ (1 ≤ d ∧ d ≤ 8 ∧ 1 ≤ pages ∧ pages ≤ 64)) (a : Option Addr) : Ctr Try.prog 8 [.pointer a, .int .i64 d, .int .i64 pages] [] [] (fun v L' => v = .tuple #[.pointer none, .int .i64 1] ∧ L' = []) := by
  refine Ctr.enter (n := 37) [.tmp 6, .tmp 7] [(0, _), (1, _), (2, _)] Try.func8 rfl rfl rfl (lb rfl) Try.call8 ⟨rfl, rfl, rfl, trivial⟩ ?_
  intro cx fin fin0
  refine aG ?_
  rcases (show d < 1 ∨ (¬ d < 1 ∧ d > 8) ∨ (¬ d < 1 ∧ ¬ d > 8 ∧ pages < 1) ∨ (¬ d < 1 ∧ ¬ d > 8 ∧ ¬ pages < 1 ∧ pages > 64) by omega) with k1 | ⟨k1, k2⟩ | ⟨k1, k2, k3⟩ | ⟨k1, k2, k3, k4⟩
  · repeat (first | refine gh k1 ?_ | refine gN fun _ => ?_ | refine gB fun _ => ?_ | fail)
    refine W.ret (fin _ _ (FinOk.first 0 (.tmp rfl (.tmp rfl .nil)) rfl ?_))
    exact ⟨rfl, rfl⟩
  · repeat (first | refine gh (gc2 k1 k2) ?_ | refine gN fun _ => ?_ | refine gB fun _ => ?_ | fail)
    refine W.ret (fin _ _ (FinOk.first 0 (.tmp rfl (.tmp rfl .nil)) rfl ?_))
    exact ⟨rfl, rfl⟩
  · repeat (first | refine gh (gc3 k1 k2 k3) ?_ | refine gN fun _ => ?_ | refine gB fun _ => ?_ | fail)
    refine W.ret (fin _ _ (FinOk.first 0 (.tmp rfl (.tmp rfl .nil)) rfl ?_))
    exact ⟨rfl, rfl⟩
  · repeat (first | refine gh (gc4 k1 k2 k3 k4) ?_ | refine gN fun _ => ?_ | refine gB fun _ => ?_ | fail)
    refine W.ret (fin _ _ (FinOk.first 0 (.tmp rfl (.tmp rfl .nil)) rfl ?_))
    exact ⟨rfl, rfl⟩
end Go.Proofs.Ytfajcpnbhnddbaa
namespace Go.Proofs.Ytfajcpnbhnddbaa
open Go Go.Sl Go.IntWalk
set_option maxHeartbeats 8000000
set_option maxRecDepth 20000
set_option linter.unusedVariables false
def Rs.d (r : Rs) : List Value := [.int .i64 r.id, .int .i64 r.errno, .bool r.hit, .int .i64 r.tick, .string (bstr r.data), .int .u64 r.c.h, .int .u64 r.c.m, .int .u64 r.c.e, .int .u64 r.c.r, .int .u64 r.c.w, .int .u64 r.c.f]
def DocT (d : Nat) (t : Tn) (l : List Value) (D : HL) : Prop := ∃ a c r at_ ct rt ag cg rg aq cq rq jl ao co ro,
  l = [.slice a t.p.fs.length c, .int .i64 t.p.hand, .int .i64 t.m.op, .int .i64 t.m.page, .slice at_ t.m.todo.length ct, .int .i64 t.m.to, .slice ag t.m.got.length cg, .int .i64 (d : Int), .int .i64 t.pages, .slice aq (List.length jl) cq, .int .i64 t.ids,
    .int .u64 t.c.h, .int .u64 t.c.m, .int .u64 t.c.e, .int .u64 t.c.r, .int .u64 t.c.w, .int .u64 t.c.f, .slice ao t.out.length co] ∧
  RoSl 6 (dflat t.p.fs) a t.p.fs.length r ∧ RoSl 3 (ios t.m.todo) at_ t.m.todo.length rt ∧ RoSl 1 (u8s t.m.got) ag t.m.got.length rg ∧ t.m.todo.length ≤ ct ∧ (∀ q ∈ r, q ∈ D) ∧ (∀ q ∈ rt, q ∈ D) ∧ (∀ q ∈ rg, q ∈ D) ∧
  jl.map Jb.j = t.js ∧ RoSl 6 (jl.flatMap Jb.l) aq jl.length rq ∧ jl.length ≤ cq ∧ (∀ q ∈ rq, q ∈ D) ∧ (∀ j ∈ jl, ∃ r, RoSl 1 (u8s j.xs) j.a j.xs.length r ∧ ∀ q ∈ r, q ∈ D) ∧
  RoSl 11 (t.out.flatMap Rs.d) ao t.out.length ro ∧ (∀ q ∈ ro, q ∈ D)
def VAt (d : Nat) (t : Tn) (tick : Int) (b bt bp : Nat) (Hw Ht Hp : HL) : Prop := ∃ l D, Hw = [(b, Obj.cells (List.toArray (.pointer (some ⟨bt, 0, none⟩) :: .pointer (some ⟨bp, 0, none⟩) :: (l ++ [.int .i64 tick]))) 55 (0, 0))] ++ D ∧
  DocT d t l D ∧ TAt d t bt bp Ht ∧ PtAt t.p bp Hp
theorem PNew_ok (n : Nat) (h1 : 1 ≤ n) (h64 : n ≤ 64) : Ctr Try.prog 7 [.int .i64 (n : Int)] [] [] (fun v L' => ∃ b H, v = .tuple #[.pointer (some ⟨b, 0, none⟩), .int .i64 0] ∧ L' = [H] ∧ PtAt (Pt.new n) b H) := by
  refine (New_spec (n : Int)).post ?_
  rintro v L' (⟨hbad, -, -⟩ | ⟨-, bp, Hp, rfl, rfl, hp⟩)
  · omega
  · exact ⟨bp, Hp, rfl, rfl, by rwa [Int.toNat_natCast] at hp⟩
theorem TRNew_spec (n d : Nat) (h64 : n ≤ 64) (pages : Int) : Ctr Try.prog 20 [.int .i64 (n : Int), .int .i64 (d : Int), .int .i64 pages] [] [] (fun v L' => ∃ l D, v = .agg (List.toArray l) ∧ L' = [D] ∧ DocT d (Tn.new n pages) l D) := by
  have hR := RNew_spec n h64
  refine Ctr.enter (n := 13) [.cell 6 53] [(0, _), (1, _), (2, _)] Try.func20 rfl rfl rfl (lb rfl) Try.call20 ⟨rfl, rfl, rfl, trivial⟩ ?_
  intro cx fin fin0
  refine aG ?_
  repeat (first | refine gx ?_ | refine gN fun _ => ?_ | refine gB fun _ => ?_ | fail)
  refine aC (o := hR) (h := ?_)
  rintro _ _ ⟨D, rfl, a, c, r, rfl, hro, hsub⟩
  refine aG ?_
  refine aBu (ps := [_]) ?_
  repeat (first | refine gx ?_ | refine gN fun _ => ?_ | refine gB fun _ => ?_ | fail)
  refine aBu (ps := [_, _, _]) ?_
  repeat (first | refine gx ?_ | refine gN fun _ => ?_ | refine gB fun _ => ?_ | fail)
  refine W.ret (fin _ _ (FinOk.first 1 (aRc .nil) rfl ?_))
  exact ⟨_, D, rfl, rfl, a, c, r, none, 0, [], none, 0, [], none, 0, [], [], none, 0, [], rfl, hro, ⟨rfl, .inl ⟨rfl, rfl⟩⟩, ⟨rfl, .inl ⟨rfl, rfl⟩⟩, Nat.le_refl _, hsub, (fun _ h => by cases h), (fun _ h => by cases h), rfl, ⟨rfl, .inl ⟨rfl, rfl⟩⟩, Nat.le_refl _, (fun _ h => by cases h), (fun _ h => by cases h), ⟨rfl, .inl ⟨rfl, rfl⟩⟩, (fun _ h => by cases h)⟩
theorem VBegin_spec (n d : Nat) (h1 : 1 ≤ n) (h64 : n ≤ 64) (k1 : 1 ≤ d) (k8 : d ≤ 8) (pages : Int) (q1 : 1 ≤ pages) (q64 : pages ≤ 64) : Ctr Try.prog 10 [.int .i64 (n : Int), .int .i64 (d : Int), .int .i64 pages] [] []
    (fun v L' => ∃ b bt bp Hw Ht Hp, v = .pointer (some ⟨b, 0, none⟩) ∧ L' = [Hw, Ht, Hp] ∧ VAt d (Tn.new n pages) 0 b bt bp Hw Ht Hp) := by
  have hN := PNew_ok n h1 h64
  have hT := TNew_spec n d k1 k8 pages q1 q64
  have hR := TRNew_spec n d h64 pages
  refine Ctr.enter (n := 48) [.tmp 6] [(0, _), (1, _), (2, _)] Try.func10 rfl rfl rfl (lb rfl) Try.call10 ⟨rfl, rfl, rfl, trivial⟩ ?_
  intro cx fin fin0
  refine aG ?_
  repeat (first | refine gx ?_ | refine gN fun _ => ?_ | refine gB fun _ => ?_ | fail)
  refine aC (o := hN) (h := ?_)
  rintro _ _ ⟨bp, Hp, rfl, rfl, hp⟩
  refine aG ?_
  repeat (first | refine gx ?_ | refine gN fun _ => ?_ | refine gB fun _ => ?_ | fail)
  refine aC (o := hT bp) (h := ?_)
  rintro _ _ ⟨bt, Ht, rfl, rfl, ht⟩
  refine aG ?_
  have hta := ht
  obtain ⟨bm, bq, ao, co, ls, los, Hm, Hq, Ho, D, rfl, hm, hqa, hls, hown, hlo, hlj, hll⟩ := ht
  refine spl5 rfl ?_
  repeat (first | refine gx ?_ | refine gN fun _ => ?_ | refine gB fun _ => ?_ | fail)
  refine aC (o := hR) (h := ?_)
  rintro _ _ ⟨l, D2, rfl, rfl, hdoc⟩
  refine aG ?_
  obtain ⟨a, c, r, at_, ct, rt, ag, cg, rg, aq, cq, rq, jl, aw, cw, ro, rfl, hdr⟩ := hdoc
  refine aBu (ps := [_, _, _]) ?_
  repeat (first | refine gx ?_ | refine gN fun _ => ?_ | refine gB fun _ => ?_ | fail)
  refine W.groupV [0, 0] rfl ?_
  refine W.groupV [1, 1, 1, 1, 1] rfl ?_
  refine W.order [1, 0, 0] rfl ?_
  refine W.ret (fin _ _ (FinOk.first 3 (.tmp rfl .nil) rfl ?_))
  exact ⟨_, bt, bp, _, _, _, rfl, rfl, _, D2, rfl, ⟨a, c, r, at_, ct, rt, ag, cg, rg, aq, cq, rq, jl, aw, cw, ro, rfl, hdr⟩, hta, hp⟩
def eq1 : Rq := ⟨1, 0, 0, 0, []⟩
def eq8 : Rq := ⟨8, 0, 0, 0, []⟩
def z16' : List Int := List.replicate 16 0
def y1 : Tn × Int × Int := (Tn.new 1 2).submit 1 eq1 0
def y2 : Tn × Int × Int := y1.1.submit 1 eq8 0
def y3 : Tn := y2.1.over 0 z16' 1
def y4 : Tn := y3.over 0 z16' 2
def y5 : Tn × Int × Int := y4.submit 1 eq8 3
theorem y1_is : (y1.2, y1.1.m.todo.length, y1.1.ids) = ((1, 0), 2, 1) := by kernel_rfl
theorem y2_is : (y2.2, y2.1.m.todo.length, y2.1.ids) = ((0, 8), 2, 1) := by kernel_rfl
theorem y3_is : (y3.m.todo.length, y3.ids) = (1, 1) := by kernel_rfl
theorem y4_is : (y4.m.todo.length, y4.ids) = (0, 1) := by kernel_rfl
theorem y5_is : (y5.2, y5.1.out.map fun r => (r.id, r.tick, r.c.m)) = ((2, 0), [(1, 2, 0), (2, 3, 1)]) := by kernel_rfl
theorem nou8 : u8ok [] := fun b hb => by cases hb
theorem y0_inv : TInv 1 (Tn.new 1 2) := new_inv 1 1 (by decide) (by decide) 2
theorem zu8 : u8ok z16' := fun b hb => by
  have := List.eq_of_mem_replicate hb
  omega
theorem ne_of_len {α : Type} {l : List α} {n : Nat} (h : l.length = n + 1) : l ≠ [] := fun h0 => by rw [h0] at h; cases h
theorem ys : ∃ (y1 y2 y5 : Tn × Int × Int) (y3 y4 : Tn), (Tn.new 1 2).submit 1 eq1 0 = y1 ∧ y1.1.submit 1 eq8 0 = y2 ∧ y2.1.over 0 z16' 1 = y3 ∧ y3.over 0 z16' 2 = y4 ∧ y4.submit 1 eq8 3 = y5 ∧
    (y1.2, y1.1.m.todo.length, y1.1.ids) = ((1, 0), 2, 1) ∧ (y2.2, y2.1.m.todo.length, y2.1.ids) = ((0, 8), 2, 1) ∧ (y3.m.todo.length, y3.ids) = (1, 1) ∧ (y4.m.todo.length, y4.ids) = (0, 1) ∧
    (y5.2, y5.1.out.map fun r => (r.id, r.tick, r.c.m)) = ((2, 0), [(1, 2, 0), (2, 3, 1)]) := ⟨y1, y2, y5, y3, y4, rfl, rfl, rfl, rfl, rfl, y1_is, y2_is, y3_is, y4_is, y5_is⟩
theorem rep16' : repL 16 [Value.int .u8 0] = u8s z16' := rfl
theorem nilro : RoSl 1 (u8s []) none 0 [] := ⟨rfl, .inl ⟨rfl, rfl⟩⟩
theorem TAt.mach {d : Nat} {t : Tn} {b bp : Nat} {H : HL} (h : TAt d t b bp H) : ∃ (bm : Nat) (rest : List Value) (Hm : HL), (b, Obj.cells (List.toArray (.pointer (some ⟨bm, 0, none⟩) :: rest)) 61 (0, 0)) ∈ H ∧ MAt t.m bm bp Hm ∧ ∀ q ∈ Hm, q ∈ H := by
  obtain ⟨bm, bq, ao, co, ls, los, Hm, Hq, Ho, D, rfl, hm, -⟩ := h
  exact ⟨bm, _, Hm, List.mem_append_left _ (List.mem_singleton.2 rfl), hm, fun q hq => by simp [hq]⟩
theorem los_one {los : List Ro} {r : Rs} (h : los.map Ro.r = [r]) : ∃ o, los = [o] ∧ o.r = r := by
  match los, h with
  | [o1], h => exact ⟨o1, rfl, by simpa using h⟩
theorem los_two {los : List Ro} (h : los.length = 2) : ∃ o1 o2, los = [o1, o2] := by
  match los, h with
  | [o1, o2], _ => exact ⟨o1, o2, rfl⟩
theorem VLives_spec : Ctr Try.prog 9 [] [] [] (fun v L' => v = .bool true ∧ L' = []) := by
  have hB := VBegin_spec 1 1 (by decide) (by decide) (by decide) (by decide) 2 (by decide) (by decide)
  obtain ⟨y1, y2, y5, y3, y4, w1, w2, w3, w4, w5, e1, e2, e3, e4, e5⟩ := ys
  obtain ⟨y1, a1, b1⟩ := y1
  obtain ⟨y2, a2, b2⟩ := y2
  obtain ⟨y5, a5, b5⟩ := y5
  simp only [Prod.mk.injEq] at e1 e2 e3 e4 e5 w1 w2 w3 w4 w5
  obtain ⟨⟨rfl, rfl⟩, e1a, e1b⟩ := e1
  obtain ⟨⟨rfl, rfl⟩, e2a, e2b⟩ := e2
  obtain ⟨⟨rfl, rfl⟩, e5⟩ := e5
  have i1 : TInv 1 y1 := by have := submit_inv y0_inv (q := eq1) (fun h => check_ok h nou8) 0; rw [w1] at this; exact this
  have i2 : TInv 1 y2 := by have := submit_inv i1 (q := eq8) (fun h => check_ok h nou8) 0; rw [w2] at this; exact this
  have n2 : y2.m.todo ≠ [] := ne_of_len e2a
  have n3 : y3.m.todo ≠ [] := ne_of_len e3.1
  have i3 : TInv 1 y3 := by have := over_inv i2 n2 0 (bs := z16') (fun _ => ⟨zu8, rfl⟩) 1; rw [w3] at this; exact this
  have i4 : TInv 1 y4 := by have := over_inv i3 n3 0 (bs := z16') (fun _ => ⟨zu8, rfl⟩) 2; rw [w4] at this; exact this
  refine Ctr.enter (n := 124) [.tmp 0] [] Try.func9 rfl rfl rfl (lb rfl) Try.call9 trivial ?_
  intro cx fin fin0
  refine aG ?_
  repeat (first | refine gx ?_ | refine gN fun _ => ?_ | refine gB fun _ => ?_ | fail)
  refine aC (o := hB) (h := ?_)
  rintro _ _ ⟨b, bt, bp, Hw, Ht, Hp, rfl, rfl, l, D, rfl, hdoc, ht, hp⟩
  refine aG ?_
  refine spl2 rfl ?_
  refine aG ?_
  have i64z : ∀ x : Int, 0 ≤ x → x ≤ 100 → i64s x := fun x h1 h2 => ⟨by omega, by omega⟩
  have h1 := Submit_spec 1 (Tn.new 1 2) y0_inv (by decide) bt bp Ht ht Hp hp eq1 nou8 (by decide) (i64z 0 (by decide) (by decide)) (i64z 1 (by decide) (by decide)) (fun h => check_ok h nou8) none 0 [] nilro 0
  rw [w1] at h1
  repeat (first | refine gx ?_ | refine gN fun _ => ?_ | refine gB fun _ => ?_ | fail)
  refine aBu (ps := [_]) ?_
  refine aC (o := h1) (h := ?_)
  rintro _ _ ⟨Ht1, Hp1, rfl, rfl, ht1, hp1⟩
  refine aG ?_
  have h2 := Submit_spec 1 y1 i1 (by rw [e1b]; decide) bt bp Ht1 ht1 Hp1 hp1 eq8 nou8 (by decide) (i64z 0 (by decide) (by decide)) (i64z 8 (by decide) (by decide)) (fun h => check_ok h nou8) none 0 [] nilro 0
  rw [w2] at h2
  repeat (first | refine gx ?_ | refine gN fun _ => ?_ | refine gB fun _ => ?_ | fail)
  refine aBu (ps := [_]) ?_
  refine aC (o := h2) (h := ?_)
  rintro _ _ ⟨Ht2, Hp2, rfl, rfl, ht2, hp2⟩
  refine aG ?_
  obtain ⟨bm2, rest2, Hm2, hin2, hm2, hsub2⟩ := ht2.mach
  have hU2 := Busy_spec _ bm2 bp Hm2 hm2
  rw [e2a] at hU2
  repeat (first | refine gx ?_ | refine gN fun _ => ?_ | refine gB fun _ => ?_ | fail)
  refine aV (OpVal.load tab_ok rfl (at_in 0 rfl hin2) rfl) ?_
  repeat (first | refine gx ?_ | refine gN fun _ => ?_ | refine gB fun _ => ?_ | fail)
  refine aC (o := hU2) (h := ?_) (hro := (fun q hq => RoIn.own 0 rfl q (hsub2 q hq)))
  rintro _ _ ⟨rfl, rfl⟩
  refine aG ?_
  repeat (first | refine gx ?_ | refine gN fun _ => ?_ | refine gB fun _ => ?_ | fail)
  have hE := fun (bz : Nat) (cb : Nat) => Over_spec 1 y2 i2 (by rw [e2b]; decide) n2 bt bp Ht2 ht2 Hp2 hp2 0 z16' (fun _ => ⟨zu8, rfl⟩) (some ⟨bz, 0, none⟩) cb _ (own_roT bz z16' 5) 1
  rw [w3] at hE
  refine W.drawH tab_ok 6 [.b false, .b false, .b false, .b false, .b true, .b true] [0,1] follows (by decide +kernel) (by decide +kernel) rfl (by decide) rfl ?_
  intro _
  refine dG ?_
  repeat (first | refine dL ?_ | refine dS ?_ | (first | refine dGo ?_ | refine dSk ?_ | refine dUn ?_ | fail) | (first | refine dPT ?_ | refine dPF ?_ | fail) | refine dV (OpVal.add rfl rfl (i64_in _ (by omega))) ?_ | refine dV (OpVal.sub rfl rfl (i64_in _ (by omega))) ?_ | refine dV (OpVal.neBool tab_ok rfl rfl rfl) ?_ | refine dV (OpVal.eqBool tab_ok rfl rfl rfl) ?_ | refine dV (OpVal.eqNil tab_ok rfl rfl rfl) ?_ | refine dV (OpVal.neNil tab_ok rfl rfl rfl) ?_ | fail)
  refine dW (NewOf.mks (bytes := 1) (len := 16) (cap := 16) tab_ok rfl rfl rfl rfl rfl rfl rfl rfl rfl (Nat.le_refl _) (by decide) (by decide)) ?_
  intro bz
  refine dG ?_
  rw [rep16']
  refine dC (o := hE bz 16) (h := ?_) (hro := RoIn.own 0 rfl)
  rintro _ _ ⟨Ht3, Hp3, rfl, ht3, hp3⟩
  refine dG ?_
  refine WD.nil (W.dropNil (aG ?_))
  obtain ⟨bm3, rest3, Hm3, hin3, hm3, hsub3⟩ := ht3.mach
  have hU3 := Busy_spec _ bm3 bp Hm3 hm3
  rw [e3.1] at hU3
  repeat (first | refine gx ?_ | refine gN fun _ => ?_ | refine gB fun _ => ?_ | fail)
  refine aV (OpVal.load tab_ok rfl (at_in 0 rfl hin3) rfl) ?_
  repeat (first | refine gx ?_ | refine gN fun _ => ?_ | refine gB fun _ => ?_ | fail)
  refine aC (o := hU3) (h := ?_) (hro := (fun q hq => RoIn.own 0 rfl q (hsub3 q hq)))
  rintro _ _ ⟨rfl, rfl⟩
  refine aG ?_
  repeat (first | refine gx ?_ | refine gN fun _ => ?_ | refine gB fun _ => ?_ | fail)
  have hE2 := fun (bz : Nat) (cb : Nat) => Over_spec 1 y3 i3 (by rw [e3.2]; decide) n3 bt bp Ht3 ht3 Hp3 hp3 0 z16' (fun _ => ⟨zu8, rfl⟩) (some ⟨bz, 0, none⟩) cb _ (own_roT bz z16' 5) 2
  rw [w4] at hE2
  refine W.drawH tab_ok 6 [.b false, .b false, .b false, .b false, .b true, .b true] [0,1] follows (by decide +kernel) (by decide +kernel) rfl (by decide) rfl ?_
  intro _
  refine dG ?_
  repeat (first | refine dL ?_ | refine dS ?_ | (first | refine dGo ?_ | refine dSk ?_ | refine dUn ?_ | fail) | (first | refine dPT ?_ | refine dPF ?_ | fail) | refine dV (OpVal.add rfl rfl (i64_in _ (by omega))) ?_ | refine dV (OpVal.sub rfl rfl (i64_in _ (by omega))) ?_ | refine dV (OpVal.neBool tab_ok rfl rfl rfl) ?_ | refine dV (OpVal.eqBool tab_ok rfl rfl rfl) ?_ | refine dV (OpVal.eqNil tab_ok rfl rfl rfl) ?_ | refine dV (OpVal.neNil tab_ok rfl rfl rfl) ?_ | fail)
  refine dW (NewOf.mks (bytes := 1) (len := 16) (cap := 16) tab_ok rfl rfl rfl rfl rfl rfl rfl rfl rfl (Nat.le_refl _) (by decide) (by decide)) ?_
  intro bz2
  refine dG ?_
  rw [rep16']
  refine dC (o := hE2 bz2 16) (h := ?_) (hro := RoIn.own 0 rfl)
  rintro _ _ ⟨Ht4, Hp4, rfl, ht4, hp4⟩
  refine dG ?_
  refine WD.nil (W.dropNil (aG ?_))
  have h5 := Submit_spec 1 y4 i4 (by rw [e4.2]; decide) bt bp Ht4 ht4 Hp4 hp4 eq8 nou8 (by decide) (i64z 0 (by decide) (by decide)) (i64z 8 (by decide) (by decide)) (fun h => check_ok h nou8) none 0 [] nilro 3
  rw [w5] at h5
  repeat (first | refine gx ?_ | refine gN fun _ => ?_ | refine gB fun _ => ?_ | fail)
  refine aBu (ps := [_]) ?_
  refine aC (o := h5) (h := ?_)
  rintro _ _ ⟨Ht5, Hp5, rfl, rfl, ht5, hp5⟩
  refine aG ?_
  repeat (first | refine gx ?_ | refine gN fun _ => ?_ | refine gB fun _ => ?_ | fail)
  refine aC (o := Out_spec 1 y5 bt bp Ht5 ht5) (h := ?_)
  rintro _ _ ⟨los, ao, co, Ht6, Ho, Do, rfl, rfl, ht6, hlo, hro, hsub, hll⟩
  refine aG ?_
  rw [← hlo] at e5
  obtain ⟨o1, o2, rfl⟩ := los_two (by simpa using congrArg List.length e5)
  have e6 := e5
  simp only [List.map_cons, List.map_nil, List.cons.injEq, Prod.mk.injEq, and_true] at e6
  obtain ⟨⟨g1, g2, g3⟩, g4, g5, g6⟩ := e6
  repeat (first | refine gx ?_ | refine gN fun _ => ?_ | refine gB fun _ => ?_ | fail)
  obtain ⟨bx, ox, lx, ex, frx, rfl, rfl, -, hld⟩ := RoSl.at (f := Ro.l) (m := 11) (fun _ => rfl) hro (show 0 < [o1, o2].length from lb rfl)
  obtain ⟨bx', ox', lx', ex', frx', hb', hro', -, hld'⟩ := RoSl.at (f := Ro.l) (m := 11) (fun _ => rfl) hro (show 1 < [o1, o2].length from lb rfl)
  cases hb'
  cases hro'
  refine aV (OpVal.ixSl (j := 0) tab_ok rfl rfl rfl rfl rfl (lb rfl)) ?_
  refine aV (OpVal.load tab_ok rfl (at_own 1 rfl) (hld 0 (by decide))) ?_
  repeat (first | refine gh g1 ?_ | refine gN fun _ => ?_ | refine gB fun _ => ?_ | fail)
  refine aV (OpVal.ixSl (j := 0) tab_ok rfl rfl rfl rfl rfl (lb rfl)) ?_
  repeat (first | refine gh g1 ?_ | refine gN fun _ => ?_ | refine gB fun _ => ?_ | fail)
  refine aV (OpVal.load tab_ok rfl (at_own 1 rfl) (hld 3 (by decide))) ?_
  repeat (first | refine gh (gc2 g1 g2) ?_ | refine gN fun _ => ?_ | refine gB fun _ => ?_ | fail)
  refine aV (OpVal.ixSl (j := 1) tab_ok rfl rfl rfl rfl rfl (lb rfl)) ?_
  repeat (first | refine gh (gc2 g1 g2) ?_ | refine gN fun _ => ?_ | refine gB fun _ => ?_ | fail)
  refine aV (OpVal.load tab_ok rfl (at_own 1 rfl) (hld' 0 (by decide))) ?_
  repeat (first | refine gh (gc3 g1 g2 g4) ?_ | refine gN fun _ => ?_ | refine gB fun _ => ?_ | fail)
  refine aV (OpVal.ixSl (j := 1) tab_ok rfl rfl rfl rfl rfl (lb rfl)) ?_
  repeat (first | refine gh (gc3 g1 g2 g4) ?_ | refine gN fun _ => ?_ | refine gB fun _ => ?_ | fail)
  refine aV (OpVal.load tab_ok rfl (at_own 1 rfl) (hld' 6 (by decide))) ?_
  repeat (first | refine gh (gc4 g1 g2 g4 g6) ?_ | refine gN fun _ => ?_ | refine gB fun _ => ?_ | fail)
  refine W.ret (fin _ _ (FinOk.first 0 (.tmp rfl .nil) rfl ?_))
  exact ⟨by simp [pack, g6], rfl⟩
end Go.Proofs.Ytfajcpnbhnddbaa
namespace Go.Proofs.Ytfajcpnbhnddbaa
open Go Go.Sl Go.IntWalk
set_option maxHeartbeats 8000000
set_option maxRecDepth 20000
set_option linter.unusedVariables false
theorem at3 (x y z : Int) (i : Nat) (h : i < 3) : ∃ u, ([.int .i64 x, .int .i64 y, .int .i64 z] : List Value)[0 + i * 1]? = some (.int .i64 u) := by
  match i, h with
  | 0, _ => exact ⟨x, rfl⟩
  | 1, _ => exact ⟨y, rfl⟩
  | 2, _ => exact ⟨z, rfl⟩
theorem TenantNews_spec (x y : Int) (hx : i64s x) (hy : i64s y) : Ctr Try.prog 3 [.int .i64 x, .int .i64 y] [] [] (fun v L' => v = .bool true ∧ L' = []) := by
  have hA := Around_spec x 10 hx (by decide)
  have hA2 := Around_spec y 66 hy (by decide)
  have hL := VLives_spec
  have hN := PNew_ok 2 (by decide) (by decide)
  generalize around x 10 = x2 at *
  generalize around y 66 = y2 at *
  refine Ctr.enter (n := 94) [.tmp 4] [(0, _), (1, _)] Try.func3 rfl rfl rfl (lb rfl) Try.call3 ⟨rfl, rfl, trivial⟩ ?_
  intro cx fin fin0
  refine aG ?_
  repeat (first | refine gx ?_ | refine gN fun _ => ?_ | refine gB fun _ => ?_ | fail)
  refine aC (o := hA) (h := ?_)
  rintro _ _ ⟨rfl, rfl⟩
  refine aG ?_
  refine aSl (ps := [_, _, _]) ?_
  intro bd
  refine aG ?_
  repeat (first | refine gx ?_ | refine gN fun _ => ?_ | refine gB fun _ => ?_ | fail)
  refine aC (o := hA2) (h := ?_)
  rintro _ _ ⟨rfl, rfl⟩
  refine aG ?_
  repeat (first | refine gx ?_ | refine gN fun _ => ?_ | refine gB fun _ => ?_ | fail)
  refine aSl (ps := [_, _, _]) ?_
  intro be
  refine aG ?_
  repeat (first | refine gx ?_ | refine gN fun _ => ?_ | refine gB fun _ => ?_ | fail)
  refine aLp (fun k ρ1 L1 => ∃ i : Nat, i ≤ 3 ∧ k = 3 - i ∧ ρ1 = [(7, .int .i64 (i : Int)), (5, .slice (some ⟨bd, 0, none⟩) 3 3), (6, .slice (some ⟨be, 0, none⟩) 3 3)] ∧ L1 = [[(be, .cells #[.int .i64 y, .int .i64 y2, .int .i64 y] 3 (0, 0))], [(bd, .cells #[.int .i64 x, .int .i64 x2, .int .i64 1] 3 (0, 0))]]) (o := ⟨0, by decide, rfl, rfl, rfl⟩) (h := ?_)
  rintro k ρ1 L1 ⟨i, hi3, rfl, rfl, rfl⟩
  refine aG ?_
  rcases Classical.em ((i : Int) < 3) with hlt | hlt
  case' inr =>
    repeat (first | refine gh hlt ?_ | refine gN fun _ => ?_ | refine gB fun _ => ?_ | fail)
    refine W.order [0] rfl ?_
    refine aC (o := hL) (h := ?_) (hro := RoIn.nil)
    rintro _ _ ⟨rfl, rfl⟩
    refine aG ?_
    repeat (first | refine gx ?_ | refine gN fun _ => ?_ | refine gB fun _ => ?_ | fail)
    refine W.ret (fin _ _ (FinOk.mk' ([]) (.tmp rfl .nil) (by repeat (first | exact Sel.nil | (apply Sel.cons; (repeat (first | exact Pick.here | apply Pick.there))))) rfl ?_))
    exact ⟨rfl, rfl⟩
  have hil : i < 3 := by omega
  obtain ⟨u, hu⟩ := at3 x x2 1 i hil
  obtain ⟨w, hw⟩ := at3 y y2 y i hil
  repeat (first | refine gh hlt ?_ | refine gN fun _ => ?_ | refine gB fun _ => ?_ | fail)
  refine aC (o := hN) (h := ?_)
  rintro _ _ ⟨bp, Hp, rfl, rfl, hp⟩
  refine aG ?_
  repeat (first | refine gx ?_ | refine gN fun _ => ?_ | refine gB fun _ => ?_ | fail)
  rcases Classical.em (1 ≤ u ∧ u ≤ 8 ∧ 1 ≤ w ∧ w ≤ 64) with hin | hin
  · obtain ⟨d, rfl⟩ : ∃ d : Nat, u = (d : Int) := ⟨u.toNat, by omega⟩
    have hT := TNew_spec 2 d (by omega) (by omega) w (by omega) (by omega) bp
    refine W.drawH tab_ok 15 [.b false, .b false, .b false, .b false, .b false, .b false, .b false, .b false, .b false, .b true, .b false, .b false, .b false, .b false, .b false] [] follows (by decide +kernel) (by decide +kernel) rfl (by decide) rfl ?_
    intro _
    refine dG ?_
    repeat (first | refine dL ?_ | refine dS ?_ | (first | refine dGo ?_ | refine dSk ?_ | refine dUn ?_ | fail) | (first | refine dPT ?_ | refine dPF ?_ | fail) | refine dV (OpVal.add rfl rfl (i64_in _ (by omega))) ?_ | refine dV (OpVal.sub rfl rfl (i64_in _ (by omega))) ?_ | refine dV (OpVal.neBool tab_ok rfl rfl rfl) ?_ | refine dV (OpVal.eqBool tab_ok rfl rfl rfl) ?_ | refine dV (OpVal.eqNil tab_ok rfl rfl rfl) ?_ | refine dV (OpVal.neNil tab_ok rfl rfl rfl) ?_ | fail)
    refine dV (OpVal.ixSl tab_ok rfl rfl rfl rfl rfl hil) ?_
    refine dV (OpVal.load tab_ok rfl (by repeat (first | exact rh | exact rhF | apply raF | apply rt)) hu) ?_
    repeat (first | refine dL ?_ | refine dS ?_ | (first | refine dGo ?_ | refine dSk ?_ | refine dUn ?_ | fail) | (first | refine dPT ?_ | refine dPF ?_ | fail) | refine dV (OpVal.add rfl rfl (i64_in _ (by omega))) ?_ | refine dV (OpVal.sub rfl rfl (i64_in _ (by omega))) ?_ | refine dV (OpVal.neBool tab_ok rfl rfl rfl) ?_ | refine dV (OpVal.eqBool tab_ok rfl rfl rfl) ?_ | refine dV (OpVal.eqNil tab_ok rfl rfl rfl) ?_ | refine dV (OpVal.neNil tab_ok rfl rfl rfl) ?_ | fail)
    refine dV (OpVal.ixSl tab_ok rfl rfl rfl rfl rfl hil) ?_
    refine dV (OpVal.load tab_ok rfl (by repeat (first | exact rh | exact rhF | apply raF | apply rt)) hw) ?_
    refine dC (o := hT) (h := ?_)
    rintro _ _ ⟨bt, Ht, rfl, rfl, ht⟩
    refine dG ?_
    repeat (first | refine dL ?_ | refine dS ?_ | (first | refine dGo ?_ | refine dSk ?_ | refine dUn ?_ | fail) | (first | refine dPT ?_ | refine dPF ?_ | fail) | refine dV (OpVal.add rfl rfl (i64_in _ (by omega))) ?_ | refine dV (OpVal.sub rfl rfl (i64_in _ (by omega))) ?_ | refine dV (OpVal.neBool tab_ok rfl rfl rfl) ?_ | refine dV (OpVal.eqBool tab_ok rfl rfl rfl) ?_ | refine dV (OpVal.eqNil tab_ok rfl rfl rfl) ?_ | refine dV (OpVal.neNil tab_ok rfl rfl rfl) ?_ | fail)
    refine WD.nil (W.dropNil (aG ?_))
    obtain ⟨k1, k2, k3, k4⟩ := hin
    have k5 : (d : Int) ≥ 1 := k1
    have k6 : w ≥ 1 := k3
    repeat (first | refine gh (gc4 k5 k2 k6 k4) ?_ | refine gN fun _ => ?_ | refine gB fun _ => ?_ | refine aV (OpVal.ixSl tab_ok rfl rfl rfl rfl rfl hil) ?_ | refine aV (OpVal.load tab_ok rfl (at_own 3 rfl) hu) ?_ | refine aV (OpVal.load tab_ok rfl (at_own 2 rfl) hw) ?_ | fail)
    refine W.order [2, 2] rfl ?_
    refine aR (o := ⟨3 - (i + 1), by omega, i + 1, by omega, rfl, rfl, rfl⟩)
  · have hT := TNewBad_spec u w hin (some ⟨bp, 0, none⟩)
    refine W.drawH tab_ok 15 [.b false, .b false, .b false, .b false, .b false, .b false, .b false, .b false, .b false, .b true, .b false, .b false, .b false, .b false, .b false] [] follows (by decide +kernel) (by decide +kernel) rfl (by decide) rfl ?_
    intro _
    refine dG ?_
    repeat (first | refine dL ?_ | refine dS ?_ | (first | refine dGo ?_ | refine dSk ?_ | refine dUn ?_ | fail) | (first | refine dPT ?_ | refine dPF ?_ | fail) | refine dV (OpVal.add rfl rfl (i64_in _ (by omega))) ?_ | refine dV (OpVal.sub rfl rfl (i64_in _ (by omega))) ?_ | refine dV (OpVal.neBool tab_ok rfl rfl rfl) ?_ | refine dV (OpVal.eqBool tab_ok rfl rfl rfl) ?_ | refine dV (OpVal.eqNil tab_ok rfl rfl rfl) ?_ | refine dV (OpVal.neNil tab_ok rfl rfl rfl) ?_ | fail)
    refine dV (OpVal.ixSl tab_ok rfl rfl rfl rfl rfl hil) ?_
    refine dV (OpVal.load tab_ok rfl (by repeat (first | exact rh | exact rhF | apply raF | apply rt)) hu) ?_
    repeat (first | refine dL ?_ | refine dS ?_ | (first | refine dGo ?_ | refine dSk ?_ | refine dUn ?_ | fail) | (first | refine dPT ?_ | refine dPF ?_ | fail) | refine dV (OpVal.add rfl rfl (i64_in _ (by omega))) ?_ | refine dV (OpVal.sub rfl rfl (i64_in _ (by omega))) ?_ | refine dV (OpVal.neBool tab_ok rfl rfl rfl) ?_ | refine dV (OpVal.eqBool tab_ok rfl rfl rfl) ?_ | refine dV (OpVal.eqNil tab_ok rfl rfl rfl) ?_ | refine dV (OpVal.neNil tab_ok rfl rfl rfl) ?_ | fail)
    refine dV (OpVal.ixSl tab_ok rfl rfl rfl rfl rfl hil) ?_
    refine dV (OpVal.load tab_ok rfl (by repeat (first | exact rh | exact rhF | apply raF | apply rt)) hw) ?_
    refine dC (o := hT) (h := ?_)
    rintro _ _ ⟨rfl, rfl⟩
    refine dG ?_
    repeat (first | refine dL ?_ | refine dS ?_ | (first | refine dGo ?_ | refine dSk ?_ | refine dUn ?_ | fail) | (first | refine dPT ?_ | refine dPF ?_ | fail) | refine dV (OpVal.add rfl rfl (i64_in _ (by omega))) ?_ | refine dV (OpVal.sub rfl rfl (i64_in _ (by omega))) ?_ | refine dV (OpVal.neBool tab_ok rfl rfl rfl) ?_ | refine dV (OpVal.eqBool tab_ok rfl rfl rfl) ?_ | refine dV (OpVal.eqNil tab_ok rfl rfl rfl) ?_ | refine dV (OpVal.neNil tab_ok rfl rfl rfl) ?_ | fail)
    refine WD.nil (W.dropNil (aG ?_))
    rcases (show ¬ u ≥ 1 ∨ (u ≥ 1 ∧ ¬ u ≤ 8) ∨ (u ≥ 1 ∧ u ≤ 8 ∧ ¬ w ≥ 1) ∨ (u ≥ 1 ∧ u ≤ 8 ∧ w ≥ 1 ∧ ¬ w ≤ 64) by omega) with k1 | ⟨k1, k2⟩ | ⟨k1, k2, k3⟩ | ⟨k1, k2, k3, k4⟩
    case' inl.inr.inl =>
      repeat (first | refine gh k1 ?_ | refine gN fun _ => ?_ | refine gB fun _ => ?_ | refine aV (OpVal.ixSl tab_ok rfl rfl rfl rfl rfl hil) ?_ | refine aV (OpVal.load tab_ok rfl (at_own 2 rfl) hu) ?_ | refine aV (OpVal.load tab_ok rfl (at_own 1 rfl) hw) ?_ | fail)
    case' inl.inr.inr.inl =>
      repeat (first | refine gh (gc2 k1 k2) ?_ | refine gN fun _ => ?_ | refine gB fun _ => ?_ | refine aV (OpVal.ixSl tab_ok rfl rfl rfl rfl rfl hil) ?_ | refine aV (OpVal.load tab_ok rfl (at_own 2 rfl) hu) ?_ | refine aV (OpVal.load tab_ok rfl (at_own 1 rfl) hw) ?_ | fail)
    case' inl.inr.inr.inr.inl =>
      repeat (first | refine gh (gc3 k1 k2 k3) ?_ | refine gN fun _ => ?_ | refine gB fun _ => ?_ | refine aV (OpVal.ixSl tab_ok rfl rfl rfl rfl rfl hil) ?_ | refine aV (OpVal.load tab_ok rfl (at_own 2 rfl) hu) ?_ | refine aV (OpVal.load tab_ok rfl (at_own 1 rfl) hw) ?_ | fail)
    case' inl.inr.inr.inr.inr =>
      repeat (first | refine gh (gc4 k1 k2 k3 k4) ?_ | refine gN fun _ => ?_ | refine gB fun _ => ?_ | refine aV (OpVal.ixSl tab_ok rfl rfl rfl rfl rfl hil) ?_ | refine aV (OpVal.load tab_ok rfl (at_own 2 rfl) hu) ?_ | refine aV (OpVal.load tab_ok rfl (at_own 1 rfl) hw) ?_ | fail)
    all_goals
      refine W.order [1, 1] rfl ?_
      refine aR (o := ⟨3 - (i + 1), by omega, i + 1, by omega, rfl, rfl, rfl⟩)
end Go.Proofs.Ytfajcpnbhnddbaa
namespace Go.Proofs.Ytfajcpnbhnddbaa
open Go Go.Sl Go.IntWalk
set_option maxHeartbeats 8000000
set_option maxRecDepth 20000
set_option linter.unusedVariables false
def fq (i : Nat) : Rq := ⟨1, ((i % 4 : Nat) : Int), 0, 0, []⟩
structure BInv (d i : Nat) (t : Tn) : Prop where
  inv : TInv d t
  js : t.js.length = min i d
  ids : t.ids = ((min i d : Nat) : Int)
  out : t.out = []
  pg : t.pages = 4
  st : (i = 0 ∧ t = Tn.new 1 4) ∨ (0 < i ∧ t.m.todo ≠ [] ∧ t.c = ⟨0, 1, 0, 0, 0, 0⟩)
theorem one18 : (1 : Int) ≤ 1 ∧ (1 : Int) ≤ 8 := by decide
theorem z64 : i64s 0 := ⟨by decide, by decide⟩
theorem o64 : i64s 1 := ⟨by decide, by decide⟩
theorem fq_check (i : Nat) : rcheck (fq i) 4 = 0 := by
  have := Nat.mod_lt i (show 0 < 4 by decide)
  unfold rcheck
  rw [if_neg (by
    rintro (h | h)
    · exact h one18
    · exact h rfl), if_neg (by show ¬ (_ ∧ _ ∧ (((i % 4 : Nat) : Int) < 0 ∨ 4 ≤ ((i % 4 : Nat) : Int))); omega), if_neg (by show ¬ ((0 : Int) < 0 ∨ (32 : Int) < 0 ∨ (0 : Int) < 0 ∨ (32 : Int) - 0 < 0 ∨ (32 : Int) - 0 < ((0 : Nat) : Int)); omega)]
def firstT : Tn := ({ Tn.new 1 4 with js := [(1, fq 0)], ids := 1 } : Tn).go 0
theorem firstT_is : (firstT.js.length, firstT.ids, firstT.pages, firstT.m.todo.length, firstT.c.h, firstT.c.m, firstT.c.e, firstT.c.r, firstT.c.w, firstT.c.f, firstT.out.length) = (1, 1, 4, 2, 0, 1, 0, 0, 0, 0, 0) := by kernel_rfl
theorem bstep {d i : Nat} {t : Tn} (h : BInv d i t) (h1 : 1 ≤ d) : BInv d (i + 1) (t.submit d (fq i) 0).1 ∧ (t.submit d (fq i) 0).2.1 = (if i < d then (i : Int) + 1 else 0) ∧ (t.submit d (fq i) 0).2.2 = (if i < d then 0 else 8) := by
  have hc := fq_check i
  have hinv := submit_inv h.inv (q := fq i) (fun h => check_ok h nou8) 0
  have hj := h.js
  have hd := h.ids
  unfold Tn.submit at hinv ⊢
  rw [if_neg (show ¬ rcheck (fq i) t.pages ≠ 0 by rw [h.pg, hc]; simp)] at hinv ⊢
  by_cases hi : i < d
  · rw [if_pos hi, if_pos hi]
    have hn : ¬ d ≤ t.js.length := by omega
    rw [if_neg hn] at hinv ⊢
    rcases h.st with ⟨rfl, rfl⟩ | ⟨h0, hb, hcc⟩
    · have e := firstT_is
      simp only [Prod.mk.injEq] at e
      obtain ⟨e1, e2, e3, e4, e5, e6, e7, e8, e9, e10, e11⟩ := e
      have e12 : firstT.c = ⟨0, 1, 0, 0, 0, 0⟩ := by
        generalize firstT.c = c at *
        obtain ⟨a1, a2, a3, a4, a5, a6⟩ := c
        simp only at *
        subst e5 e6 e7 e8 e9 e10
        rfl
      refine ⟨⟨hinv, ?_, ?_, ?_, ?_, .inr ⟨by omega, ?_, ?_⟩⟩, rfl, rfl⟩
      · show firstT.js.length = _; omega
      · show firstT.ids = _; omega
      · exact List.length_eq_zero_iff.1 e11
      · exact e3
      · exact ne_of_len e4
      · exact e12
    · have e : ({ t with js := t.js ++ [(t.ids + 1, fq i)], ids := t.ids + 1 } : Tn).go 0 = { t with js := t.js ++ [(t.ids + 1, fq i)], ids := t.ids + 1 } := go_quiet (t := { t with js := t.js ++ [(t.ids + 1, fq i)], ids := t.ids + 1 }) (.inl hb) 0
      rw [e] at hinv ⊢
      refine ⟨⟨hinv, ?_, ?_, h.out, h.pg, .inr ⟨by omega, hb, hcc⟩⟩, ?_, rfl⟩
      · simp only [List.length_append, List.length_singleton]; omega
      · simp only; omega
      · simp only; omega
  · rw [if_neg hi, if_neg hi]
    have hn : d ≤ t.js.length := by omega
    rw [if_pos hn] at hinv ⊢
    refine ⟨⟨hinv, by simp only; omega, by simp only; omega, h.out, h.pg, ?_⟩, rfl, rfl⟩
    rcases h.st with ⟨rfl, rfl⟩ | ⟨h0, hb, hcc⟩
    · omega
    · exact .inr ⟨by omega, hb, hcc⟩
theorem TenantBusy_spec (x y : Int) (hx : i64s x) (hy : i64s y) : Ctr Try.prog 5 [.int .i64 x, .int .i64 y] [] [] (fun v L' => v = .bool true ∧ L' = []) := by
  have rx := around_range x 8 (by decide)
  have ry := around_range y 13 (by decide)
  have hA := Around_spec x 8 hx (by decide)
  have hA2 := Around_spec y 13 hy (by decide)
  have hL := VLives_spec
  obtain ⟨d, hd⟩ : ∃ d : Nat, 1 + around x 8 = (d : Int) := ⟨(1 + around x 8).toNat, by omega⟩
  obtain ⟨n, hn⟩ : ∃ n : Nat, around y 13 = (n : Int) := ⟨(around y 13).toNat, by omega⟩
  have hd1 : 1 ≤ d := by omega
  have hd8 : d ≤ 8 := by omega
  have hn12 : n ≤ 12 := by omega
  have hB := VBegin_spec 1 d (by decide) (by decide) hd1 hd8 4 (by decide) (by decide)
  rw [hn] at hA2
  generalize around x 8 = ax at *
  refine Ctr.enter (n := 95) [.tmp 4] [(0, _), (1, _)] Try.func5 rfl rfl rfl (lb rfl) Try.call5 ⟨rfl, rfl, trivial⟩ ?_
  intro cx fin fin0
  refine aG ?_
  repeat (first | refine gx ?_ | refine gN fun _ => ?_ | refine gB fun _ => ?_ | fail)
  refine aC (o := hA) (h := ?_)
  rintro _ _ ⟨rfl, rfl⟩
  refine aG ?_
  repeat (first | refine gx ?_ | refine gN fun _ => ?_ | refine gB fun _ => ?_ | fail)
  rw [hd]
  refine aC (o := hB) (h := ?_)
  rintro _ _ ⟨b, bt, bp, Hw, Ht, Hp, rfl, rfl, l, D, rfl, hdoc, ht, hp⟩
  refine aG ?_
  repeat (first | refine gx ?_ | refine gN fun _ => ?_ | refine gB fun _ => ?_ | fail)
  refine spl2 rfl ?_
  refine aG ?_
  refine aC (o := hA2) (h := ?_)
  rintro _ _ ⟨rfl, rfl⟩
  refine aG ?_
  repeat (first | refine gx ?_ | refine gN fun _ => ?_ | refine gB fun _ => ?_ | fail)
  refine aLp (fun k ρ1 L1 => ∃ (i : Nat) (t : Tn) (Ht Hp : HL), i ≤ n ∧ BInv d i t ∧ TAt d t bt bp Ht ∧ PtAt t.p bp Hp ∧ k = n - i ∧ ρ1 = [(8, .int .i64 (i : Int)), (5, .int .i64 (d : Int)), (6, .pointer (some ⟨b, 0, none⟩)), (7, .int .i64 (n : Int))] ∧ L1 = [Ht, Hp, [(b, Obj.cells (List.toArray (.pointer (some ⟨bt, 0, none⟩) :: .pointer (some ⟨bp, 0, none⟩) :: (l ++ [.int .i64 0]))) 55 (0, 0))]]) (o := ⟨0, Tn.new 1 4, Ht, Hp, Nat.zero_le _, ⟨new_inv d 1 (by decide) (by decide) 4, by simp [Tn.new], by simp [Tn.new], rfl, rfl, .inl ⟨rfl, rfl⟩⟩, ht, hp, rfl, rfl, rfl⟩) (h := ?_)
  clear ht hp
  rintro k ρ1 L1 ⟨i, t, Ht, Hp, hin, hb, ht, hp, rfl, rfl, rfl⟩
  refine aG ?_
  rcases Classical.em ((i : Int) < (n : Int)) with hlt | hlt
  · obtain ⟨hb2, hr1, hr2⟩ := bstep hb hd1
    have hS := Submit_spec d t hb.inv (by rw [hb.ids]; omega) bt bp Ht ht Hp hp (fq i) nou8 (Nat.zero_le 1000000) z64 o64 (fun h => check_ok h nou8) none 0 [] nilro 0
    rw [hr1, hr2] at hS
    generalize (t.submit d (fq i) 0).1 = t2 at *
    repeat (first | refine gh hlt ?_ | refine gN fun _ => ?_ | refine gB fun _ => ?_ | fail)
    refine aV (OpVal.rem (r := ((i % 4 : Nat) : Int)) rfl rfl (by decide) (tmodN i 4)) ?_
    refine aBu (ps := [_, _]) ?_
    refine aC (o := hS) (h := ?_)
    rintro _ _ ⟨Ht2, Hp2, rfl, rfl, ht2, hp2⟩
    refine aG ?_
    rcases Classical.em (i < d) with hid | hid
    case' inl =>
      rw [if_pos hid, if_pos hid]
      have h3 : (i : Int) < (d : Int) := by omega
      have h4 : ¬ (i : Int) ≥ (d : Int) := by omega
    case' inr =>
      rw [if_neg hid, if_neg hid]
      have h3 : ¬ (i : Int) < (d : Int) := by omega
      have h4 : (i : Int) ≥ (d : Int) := by omega
    all_goals
      repeat (first | refine gh (gc2 h3 h4) ?_ | refine gN fun _ => ?_ | refine gB fun _ => ?_ | fail)
      refine aR (o := ⟨n - (i + 1), by omega, i + 1, t2, Ht2, Hp2, by omega, hb2, ht2, hp2, rfl, rfl, rfl⟩)
  · obtain rfl : i = n := by omega
    have hW := Waits_spec d t bt bp Ht ht
    have hC := Count_spec d t bt bp Ht ht
    have hcc : t.c = ⟨0, ((min i 1 : Nat) : Int), 0, 0, 0, 0⟩ := by
      rcases hb.st with ⟨rfl, rfl⟩ | ⟨h0, -, h2⟩
      · rfl
      · rw [h2, show min i 1 = 1 by omega]; rfl
    rw [hcc] at hC
    have hO := Out_spec d t bt bp Ht ht
    repeat (first | refine gh hlt ?_ | refine gN fun _ => ?_ | refine gB fun _ => ?_ | fail)
    refine aV (OpVal.min2 rfl rfl) ?_
    have em : (if (1 : Int) < (i : Int) then (1 : Int) else (i : Int)) = ((min i 1 : Nat) : Int) := by split <;> omega
    rw [em]
    refine aV (OpVal.conv (r := ((min i 1 : Nat) : Int)) tab_ok rfl rfl rfl (u64_in _ (by omega))) ?_
    repeat (first | refine gx ?_ | refine gN fun _ => ?_ | refine gB fun _ => ?_ | fail)
    refine aC (o := hW) (h := ?_) (hro := RoIn.own 0 rfl)
    rintro _ _ ⟨rfl, rfl⟩
    refine aG ?_
    repeat (first | refine gx ?_ | refine gN fun _ => ?_ | refine gB fun _ => ?_ | fail)
    refine aV (OpVal.min2 rfl rfl) ?_
    have em2 : (if (d : Int) < (i : Int) then (d : Int) else (i : Int)) = (t.js.length : Int) := by rw [hb.js]; split <;> omega
    rw [em2]
    repeat (first | refine gx ?_ | refine gN fun _ => ?_ | refine gB fun _ => ?_ | fail)
    refine aC (o := hC) (h := ?_) (hro := RoIn.own 0 rfl)
    rintro _ _ ⟨rfl, rfl⟩
    refine aG ?_
    repeat (first | refine gx ?_ | refine gN fun _ => ?_ | refine gB fun _ => ?_ | fail)
    refine aBu (ps := [_]) ?_
    repeat (first | refine gx ?_ | refine gN fun _ => ?_ | refine gB fun _ => ?_ | fail)
    refine aV (eqC ⟨0, ((min i 1 : Nat) : Int), 0, 0, 0, 0⟩ rfl rfl) ?_
    repeat (first | refine gx ?_ | refine gN fun _ => ?_ | refine gB fun _ => ?_ | fail)
    refine aC (o := hO) (h := ?_)
    rintro _ _ ⟨los, ao, co, Ht3, Ho, Do, rfl, rfl, ht3, hlo, -⟩
    refine aG ?_
    have h0 : los = [] := by rw [hb.out] at hlo; exact List.map_eq_nil_iff.1 hlo
    subst h0
    repeat (first | refine gx ?_ | refine gN fun _ => ?_ | refine gB fun _ => ?_ | fail)
    refine aC (o := hL) (h := ?_) (hro := RoIn.nil)
    rintro _ _ ⟨rfl, rfl⟩
    refine aG ?_
    repeat (first | refine gx ?_ | refine gN fun _ => ?_ | refine gB fun _ => ?_ | fail)
    refine W.ret (fin _ _ (FinOk.first 0 (.tmp rfl .nil) rfl ?_))
    exact ⟨rfl, rfl⟩
end Go.Proofs.Ytfajcpnbhnddbaa
namespace Go.Proofs.Ytfajcpnbhnddbaa
open Go Go.Sl Go.IntWalk
set_option maxHeartbeats 8000000
set_option maxRecDepth 20000
theorem ops14_at (k : Nat) (h : k < 14) : ([.int .i64 1, .int .i64 1, .int .i64 1, .int .i64 2, .int .i64 2, .int .i64 3, .int .i64 3, .int .i64 3, .int .i64 4, .int .i64 4, .int .i64 5, .int .i64 6, .int .i64 7, .int .i64 8] : List Value)[0 + k * 1]? = some (.int .i64 (ops14.getD k 0)) := by
  match k, h with
  | 0, _ => rfl
  | 1, _ => rfl
  | 2, _ => rfl
  | 3, _ => rfl
  | 4, _ => rfl
  | 5, _ => rfl
  | 6, _ => rfl
  | 7, _ => rfl
  | 8, _ => rfl
  | 9, _ => rfl
  | 10, _ => rfl
  | 11, _ => rfl
  | 12, _ => rfl
  | 13, _ => rfl
structure Rq.In (q : Rq) : Prop where
  op : i64s q.op
  page : i64s q.page
  off : i64s q.off
  len : i64s q.len
theorem Good_spec (q : Rq) (hq : q.In) (n : Int) (hn : 0 < n) (aq : Option Addr) (cq : Nat) (rq : HL) (hrq : RoSl 1 (u8s q.data) aq q.data.length rq) :
    Ctr Try.prog 11 [q.v aq cq, .int .i64 n] [] rq (fun v L' => ∃ a' c' H, v = (gq q n).v a' c' ∧ L' = [H] ∧ RoSl 1 (u8s (gq q n).data) a' (gq q n).data.length H) := by
  have h14 := around_range q.op 14 (by decide)
  have hA1 := Around_spec q.op 14 hq.op (by decide)
  have hAp := Around_spec q.page n hq.page hn
  have ho := around_range q.off 33 (by decide)
  have hAo := Around_spec q.off 33 hq.off (by decide)
  have hl := around_range q.len 33 (by decide)
  have hAl := Around_spec q.len 33 hq.len (by decide)
  have hAm := Around_spec q.len (33 - around q.off 33) hq.len (by omega)
  have hG : gop q.op = ops14.getD (around q.op 14).toNat 0 := rfl
  have hgc := gop_cases q.op
  obtain ⟨qo, qp, qf, ql, qd⟩ := q
  simp only at *
  have hgq : gq ⟨qo, qp, qf, ql, qd⟩ n = ⟨gop qo, if gop qo ≠ 6 ∧ gop qo ≠ 8 then around qp n else 0, if gop qo = 2 ∨ gop qo = 3 then around qf 33 else 0, if gop qo = 2 then around ql (33 - around qf 33) else 0, if gop qo = 3 then (fill qd (around ql 33).toNat).take (32 - around qf 33).toNat else []⟩ := rfl
  rw [hgq]
  obtain ⟨k, hk⟩ : ∃ k : Nat, around qo 14 = (k : Int) := ⟨(around qo 14).toNat, by omega⟩
  have hk14 : k < 14 := by omega
  rw [hk] at hA1
  rw [hk, Int.toNat_natCast] at hG
  have hld := ops14_at k hk14
  rw [← hG] at hld
  generalize gop qo = g at *
  clear hgq hG
  have hdata : RoSl 1 (u8s []) none 0 [] := ⟨rfl, .inl ⟨rfl, rfl⟩⟩
  generalize hao : around qf 33 = off at *
  generalize around ql 33 = ln at *
  generalize around ql (33 - off) = le2 at *
  generalize around qp n = pg at *
  rcases hgc with rfl | rfl | rfl | rfl | rfl | rfl | rfl | rfl
  · refine Ctr.enter (n := 59) [.cell 4 41] [(0, _), (1, _)] Try.func11 rfl rfl rfl (lb rfl) Try.call11 ⟨rfl, rfl, trivial⟩ ?_
    intro cx fin fin0
    refine aG ?_
    repeat (first | refine gw ?_ | refine gN fun _ => ?_ | refine gB fun _ => ?_ | fail)
    refine aSl (ps := [_, _, _, _, _, _, _, _, _, _, _, _, _, _]) ?_
    intro bq
    refine aG ?_
    repeat (first | refine gw ?_ | refine gN fun _ => ?_ | refine gB fun _ => ?_ | fail)
    refine aC (o := hA1) (h := ?_)
    rintro _ _ ⟨rfl, rfl⟩
    refine aG ?_
    refine aV (OpVal.ixSl tab_ok rfl rfl rfl rfl rfl hk14) ?_
    refine aV (OpVal.load tab_ok rfl (at_own 0 rfl) hld) ?_
    repeat (first | refine gx ?_ | refine gN fun _ => ?_ | refine gB fun _ => ?_ | fail)
    refine aBu (ps := [_]) ?_
    repeat (first | refine gx ?_ | refine gN fun _ => ?_ | refine gB fun _ => ?_ | fail)
    refine aC (o := hAp) (h := ?_)
    rintro _ _ ⟨rfl, rfl⟩
    refine aG ?_
    repeat (first | refine gx ?_ | refine gN fun _ => ?_ | refine gB fun _ => ?_ | fail)
    refine W.nilChunk ?_
    refine W.ret (fin _ _ (FinOk.first 1 (aRc .nil) rfl ?_))
    exact ⟨none, 0, [], rfl, rfl, hdata⟩
  · refine Ctr.enter (n := 59) [.cell 4 41] [(0, _), (1, _)] Try.func11 rfl rfl rfl (lb rfl) Try.call11 ⟨rfl, rfl, trivial⟩ ?_
    intro cx fin fin0
    refine aG ?_
    repeat (first | refine gw ?_ | refine gN fun _ => ?_ | refine gB fun _ => ?_ | fail)
    refine aSl (ps := [_, _, _, _, _, _, _, _, _, _, _, _, _, _]) ?_
    intro bq
    refine aG ?_
    repeat (first | refine gw ?_ | refine gN fun _ => ?_ | refine gB fun _ => ?_ | fail)
    refine aC (o := hA1) (h := ?_)
    rintro _ _ ⟨rfl, rfl⟩
    refine aG ?_
    refine aV (OpVal.ixSl tab_ok rfl rfl rfl rfl rfl hk14) ?_
    refine aV (OpVal.load tab_ok rfl (at_own 0 rfl) hld) ?_
    repeat (first | refine gx ?_ | refine gN fun _ => ?_ | refine gB fun _ => ?_ | fail)
    refine aBu (ps := [_]) ?_
    repeat (first | refine gx ?_ | refine gN fun _ => ?_ | refine gB fun _ => ?_ | fail)
    refine aC (o := hAp) (h := ?_)
    rintro _ _ ⟨rfl, rfl⟩
    refine aG ?_
    repeat (first | refine gx ?_ | refine gN fun _ => ?_ | refine gB fun _ => ?_ | fail)
    refine aC (o := hAo) (h := ?_)
    rintro _ _ ⟨rfl, rfl⟩
    refine aG ?_
    repeat (first | refine gx ?_ | refine gN fun _ => ?_ | refine gB fun _ => ?_ | fail)
    refine aC (o := hAm) (h := ?_)
    rintro _ _ ⟨rfl, rfl⟩
    refine aG ?_
    repeat (first | refine gx ?_ | refine gN fun _ => ?_ | refine gB fun _ => ?_ | fail)
    refine W.nilChunk ?_
    refine W.ret (fin _ _ (FinOk.first 1 (aRc .nil) rfl ?_))
    exact ⟨none, 0, [], rfl, rfl, hdata⟩
  · refine Ctr.enter (n := 59) [.cell 4 41] [(0, _), (1, _)] Try.func11 rfl rfl rfl (lb rfl) Try.call11 ⟨rfl, rfl, trivial⟩ ?_
    intro cx fin fin0
    refine aG ?_
    repeat (first | refine gw ?_ | refine gN fun _ => ?_ | refine gB fun _ => ?_ | fail)
    refine aSl (ps := [_, _, _, _, _, _, _, _, _, _, _, _, _, _]) ?_
    intro bq
    refine aG ?_
    repeat (first | refine gw ?_ | refine gN fun _ => ?_ | refine gB fun _ => ?_ | fail)
    refine aC (o := hA1) (h := ?_)
    rintro _ _ ⟨rfl, rfl⟩
    refine aG ?_
    refine aV (OpVal.ixSl tab_ok rfl rfl rfl rfl rfl hk14) ?_
    refine aV (OpVal.load tab_ok rfl (at_own 0 rfl) hld) ?_
    repeat (first | refine gx ?_ | refine gN fun _ => ?_ | refine gB fun _ => ?_ | fail)
    refine aBu (ps := [_]) ?_
    repeat (first | refine gx ?_ | refine gN fun _ => ?_ | refine gB fun _ => ?_ | fail)
    refine aC (o := hAp) (h := ?_)
    rintro _ _ ⟨rfl, rfl⟩
    refine aG ?_
    repeat (first | refine gx ?_ | refine gN fun _ => ?_ | refine gB fun _ => ?_ | fail)
    refine aC (o := hAo) (h := ?_)
    rintro _ _ ⟨rfl, rfl⟩
    refine aG ?_
    repeat (first | refine gx ?_ | refine gN fun _ => ?_ | refine gB fun _ => ?_ | fail)
    have hFl := Fill_spec qd aq cq rq hrq ln (by omega) (by omega)
    have hFw : ∀ (ab : Option Addr) (cb : Nat) (rb : HL), ln.toNat ≤ cb → RoSl 1 (u8s (fill qd ln.toNat)) ab ln.toNat rb → _ := fun ab cb rb hcb hrb => by
      have := Few_spec (fill qd ln.toNat) ab cb (by rw [fill_len]; exact hcb) rb (by rw [fill_len]; exact hrb) (32 - off) (by omega) (by omega)
      rw [fill_len] at this
      exact this
    refine W.drawH tab_ok 10 [.b false, .b false, .b false, .b false, .b false, .b true, .b false, .b false, .b false, .b true] [] follows (by decide +kernel) (by decide +kernel) rfl (by decide) rfl ?_
    intro _
    refine dG ?_
    repeat (first | refine dL ?_ | refine dS ?_ | (refine dN ?_; intro _; refine dG ?_) | (refine dB ?_; intro _; refine dG ?_) | fail)
    refine dQ (o := hAl) (h := ?_)
    refine dC (o := hFl) (h := ?_) (hro := RoIn.all (fun q hq => by simp [hq]))
    rintro _ _ ⟨af, cf, Hf, rfl, rfl, hof⟩
    refine dG ?_
    repeat (first | refine dL ?_ | refine dS ?_ | (first | refine dGo ?_ | refine dSk ?_ | refine dUn ?_ | fail) | (first | refine dPT ?_ | refine dPF ?_ | fail) | refine dV (OpVal.add rfl rfl (i64_in _ (by omega))) ?_ | refine dV (OpVal.sub rfl rfl (i64_in _ (by omega))) ?_ | refine dV (OpVal.neBool tab_ok rfl rfl rfl) ?_ | refine dV (OpVal.eqBool tab_ok rfl rfl rfl) ?_ | refine dV (OpVal.eqNil tab_ok rfl rfl rfl) ?_ | refine dV (OpVal.neNil tab_ok rfl rfl rfl) ?_ | fail)
    refine dC (o := hFw af cf Hf hof.cap_le (Own.roSl hof)) (h := ?_) (hro := RoIn.own 0 rfl)
    rintro _ _ ⟨ag, cg, Hg, rfl, rfl, hog⟩
    refine dG ?_
    refine WD.nil (W.dropNil (aG ?_))
    repeat (first | refine gx ?_ | refine gN fun _ => ?_ | refine gB fun _ => ?_ | fail)
    refine W.order [0, 3] rfl ?_
    refine W.ret (fin _ _ (FinOk.first 1 (aRc .nil) rfl ?_))
    exact ⟨ag, cg, Hg, rfl, rfl, Own.roSl hog⟩
  · refine Ctr.enter (n := 59) [.cell 4 41] [(0, _), (1, _)] Try.func11 rfl rfl rfl (lb rfl) Try.call11 ⟨rfl, rfl, trivial⟩ ?_
    intro cx fin fin0
    refine aG ?_
    repeat (first | refine gw ?_ | refine gN fun _ => ?_ | refine gB fun _ => ?_ | fail)
    refine aSl (ps := [_, _, _, _, _, _, _, _, _, _, _, _, _, _]) ?_
    intro bq
    refine aG ?_
    repeat (first | refine gw ?_ | refine gN fun _ => ?_ | refine gB fun _ => ?_ | fail)
    refine aC (o := hA1) (h := ?_)
    rintro _ _ ⟨rfl, rfl⟩
    refine aG ?_
    refine aV (OpVal.ixSl tab_ok rfl rfl rfl rfl rfl hk14) ?_
    refine aV (OpVal.load tab_ok rfl (at_own 0 rfl) hld) ?_
    repeat (first | refine gx ?_ | refine gN fun _ => ?_ | refine gB fun _ => ?_ | fail)
    refine aBu (ps := [_]) ?_
    repeat (first | refine gx ?_ | refine gN fun _ => ?_ | refine gB fun _ => ?_ | fail)
    refine aC (o := hAp) (h := ?_)
    rintro _ _ ⟨rfl, rfl⟩
    refine aG ?_
    repeat (first | refine gx ?_ | refine gN fun _ => ?_ | refine gB fun _ => ?_ | fail)
    refine W.nilChunk ?_
    refine W.ret (fin _ _ (FinOk.first 1 (aRc .nil) rfl ?_))
    exact ⟨none, 0, [], rfl, rfl, hdata⟩
  · refine Ctr.enter (n := 59) [.cell 4 41] [(0, _), (1, _)] Try.func11 rfl rfl rfl (lb rfl) Try.call11 ⟨rfl, rfl, trivial⟩ ?_
    intro cx fin fin0
    refine aG ?_
    repeat (first | refine gw ?_ | refine gN fun _ => ?_ | refine gB fun _ => ?_ | fail)
    refine aSl (ps := [_, _, _, _, _, _, _, _, _, _, _, _, _, _]) ?_
    intro bq
    refine aG ?_
    repeat (first | refine gw ?_ | refine gN fun _ => ?_ | refine gB fun _ => ?_ | fail)
    refine aC (o := hA1) (h := ?_)
    rintro _ _ ⟨rfl, rfl⟩
    refine aG ?_
    refine aV (OpVal.ixSl tab_ok rfl rfl rfl rfl rfl hk14) ?_
    refine aV (OpVal.load tab_ok rfl (at_own 0 rfl) hld) ?_
    repeat (first | refine gx ?_ | refine gN fun _ => ?_ | refine gB fun _ => ?_ | fail)
    refine aBu (ps := [_]) ?_
    repeat (first | refine gx ?_ | refine gN fun _ => ?_ | refine gB fun _ => ?_ | fail)
    refine aC (o := hAp) (h := ?_)
    rintro _ _ ⟨rfl, rfl⟩
    refine aG ?_
    repeat (first | refine gx ?_ | refine gN fun _ => ?_ | refine gB fun _ => ?_ | fail)
    refine W.nilChunk ?_
    refine W.ret (fin _ _ (FinOk.first 1 (aRc .nil) rfl ?_))
    exact ⟨none, 0, [], rfl, rfl, hdata⟩
  · refine Ctr.enter (n := 59) [.cell 4 41] [(0, _), (1, _)] Try.func11 rfl rfl rfl (lb rfl) Try.call11 ⟨rfl, rfl, trivial⟩ ?_
    intro cx fin fin0
    refine aG ?_
    repeat (first | refine gw ?_ | refine gN fun _ => ?_ | refine gB fun _ => ?_ | fail)
    refine aSl (ps := [_, _, _, _, _, _, _, _, _, _, _, _, _, _]) ?_
    intro bq
    refine aG ?_
    repeat (first | refine gw ?_ | refine gN fun _ => ?_ | refine gB fun _ => ?_ | fail)
    refine aC (o := hA1) (h := ?_)
    rintro _ _ ⟨rfl, rfl⟩
    refine aG ?_
    refine aV (OpVal.ixSl tab_ok rfl rfl rfl rfl rfl hk14) ?_
    refine aV (OpVal.load tab_ok rfl (at_own 0 rfl) hld) ?_
    repeat (first | refine gx ?_ | refine gN fun _ => ?_ | refine gB fun _ => ?_ | fail)
    refine aBu (ps := [_]) ?_
    repeat (first | refine gx ?_ | refine gN fun _ => ?_ | refine gB fun _ => ?_ | fail)
    refine W.nilChunk ?_
    refine W.ret (fin _ _ (FinOk.first 1 (aRc .nil) rfl ?_))
    exact ⟨none, 0, [], rfl, rfl, hdata⟩
  · refine Ctr.enter (n := 59) [.cell 4 41] [(0, _), (1, _)] Try.func11 rfl rfl rfl (lb rfl) Try.call11 ⟨rfl, rfl, trivial⟩ ?_
    intro cx fin fin0
    refine aG ?_
    repeat (first | refine gw ?_ | refine gN fun _ => ?_ | refine gB fun _ => ?_ | fail)
    refine aSl (ps := [_, _, _, _, _, _, _, _, _, _, _, _, _, _]) ?_
    intro bq
    refine aG ?_
    repeat (first | refine gw ?_ | refine gN fun _ => ?_ | refine gB fun _ => ?_ | fail)
    refine aC (o := hA1) (h := ?_)
    rintro _ _ ⟨rfl, rfl⟩
    refine aG ?_
    refine aV (OpVal.ixSl tab_ok rfl rfl rfl rfl rfl hk14) ?_
    refine aV (OpVal.load tab_ok rfl (at_own 0 rfl) hld) ?_
    repeat (first | refine gx ?_ | refine gN fun _ => ?_ | refine gB fun _ => ?_ | fail)
    refine aBu (ps := [_]) ?_
    repeat (first | refine gx ?_ | refine gN fun _ => ?_ | refine gB fun _ => ?_ | fail)
    refine aC (o := hAp) (h := ?_)
    rintro _ _ ⟨rfl, rfl⟩
    refine aG ?_
    repeat (first | refine gx ?_ | refine gN fun _ => ?_ | refine gB fun _ => ?_ | fail)
    refine W.nilChunk ?_
    refine W.ret (fin _ _ (FinOk.first 1 (aRc .nil) rfl ?_))
    exact ⟨none, 0, [], rfl, rfl, hdata⟩
  · refine Ctr.enter (n := 59) [.cell 4 41] [(0, _), (1, _)] Try.func11 rfl rfl rfl (lb rfl) Try.call11 ⟨rfl, rfl, trivial⟩ ?_
    intro cx fin fin0
    refine aG ?_
    repeat (first | refine gw ?_ | refine gN fun _ => ?_ | refine gB fun _ => ?_ | fail)
    refine aSl (ps := [_, _, _, _, _, _, _, _, _, _, _, _, _, _]) ?_
    intro bq
    refine aG ?_
    repeat (first | refine gw ?_ | refine gN fun _ => ?_ | refine gB fun _ => ?_ | fail)
    refine aC (o := hA1) (h := ?_)
    rintro _ _ ⟨rfl, rfl⟩
    refine aG ?_
    refine aV (OpVal.ixSl tab_ok rfl rfl rfl rfl rfl hk14) ?_
    refine aV (OpVal.load tab_ok rfl (at_own 0 rfl) hld) ?_
    repeat (first | refine gx ?_ | refine gN fun _ => ?_ | refine gB fun _ => ?_ | fail)
    refine aBu (ps := [_]) ?_
    repeat (first | refine gx ?_ | refine gN fun _ => ?_ | refine gB fun _ => ?_ | fail)
    refine W.nilChunk ?_
    refine W.ret (fin _ _ (FinOk.first 1 (aRc .nil) rfl ?_))
    exact ⟨none, 0, [], rfl, rfl, hdata⟩
end Go.Proofs.Ytfajcpnbhnddbaa
namespace Go.Proofs.Ytfajcpnbhnddbaa
open Go Go.Sl Go.IntWalk
set_option maxHeartbeats 8000000
set_option maxRecDepth 20000
end Go.Proofs.Ytfajcpnbhnddbaa
namespace Go.Proofs.Ytfajcpnbhnddbaa
open Go Go.Sl Go.IntWalk
set_option maxHeartbeats 8000000
set_option maxRecDepth 20000
def lq : Rq := ⟨1, 3, 0, 0, []⟩
def z16 : List Int := List.replicate 16 0
def l1 : Mc × Pt × Re := mBegin Mc.idle (Pt.new 1) lq
def l2 : Mc × Pt × Re := mEnd l1.1 l1.2.1 0 z16
def l3 : Mc × Pt × Re := mEnd l2.1 l2.2.1 0 z16
def l4 : Mc × Pt × Re := mBegin l3.1 l3.2.1 lq
theorem l1_is : l1.2.2 = ⟨false, 0, false, [], ⟨0, 1, 0, 0, 0, 0⟩⟩ ∧ l1.1.todo = [(1, 3, 0), (1, 3, 1)] := ⟨rfl, rfl⟩
theorem l2_is : l2.2.2 = ⟨false, 0, false, [], ⟨0, 0, 0, 0, 0, 0⟩⟩ ∧ l2.1.todo = [(1, 3, 1)] := ⟨rfl, rfl⟩
theorem l3_is : l3.2.2 = ⟨true, 0, false, [], ⟨0, 0, 0, 0, 0, 0⟩⟩ ∧ l3.1.todo = [] := ⟨rfl, rfl⟩
theorem l4_is : l4.2.2 = ⟨true, 0, true, [], ⟨1, 0, 0, 0, 0, 0⟩⟩ := rfl
theorem rep16 : repL 16 [Value.int .u8 0] = u8s z16 := rfl
theorem l0_inv : MInv Mc.idle (Pt.new 1) := idle_inv (Pt.new_inv (by decide) (by decide))
theorem nil_u8 : u8ok [] := fun b hb => by cases hb
theorem l1_inv : MInv l1.1 l1.2.1 := begin_inv l0_inv rfl (q := lq) (by decide) (by decide) nil_u8
theorem z16_u8 : u8ok z16 := fun b hb => by
  have := List.eq_of_mem_replicate hb
  omega
theorem l2_inv : MInv l2.1 l2.2.1 := end_inv l1_inv (by rw [l1_is.2]; simp) 0 z16_u8 rfl
theorem l3_inv : MInv l3.1 l3.2.1 := end_inv l2_inv (by rw [l2_is.2]; simp) 0 z16_u8 rfl
end Go.Proofs.Ytfajcpnbhnddbaa
