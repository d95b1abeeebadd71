/-
  The walks of this claim and the rules that they use, part three: each theorem is a contract of one function, or what such a proof asks.
-/
import Derived.Test.YtfpghdcjdnifcaaGreatZ2
import Derived.Maps.RangeRun
import Derived.IntWalk
import Derived.Shelf.Sort.Plain
import Derived.Shelf.Slices.In.SortNone
import Derived.Test.YtfpghdcjdnifcaaGreatProg
namespace Go.Proofs.YtfpghdcjdnifcaaGreat
open Go Go.Sl Go.IntWalk
set_option maxHeartbeats 8000000
set_option maxRecDepth 20000
def mRead (p : Pt) (q : Rq) : Pt × Re := ((p.get q.page q.off q.len).1, if (p.get q.page q.off q.len).2.2 = 0 then ⟨true, 0, false, (p.get q.page q.off q.len).2.1, ⟨0, 0, 0, 1, 0, 0⟩⟩ else Re.dn (p.get q.page q.off q.len).2.2)
def mWrite (p : Pt) (q : Rq) : Pt × Re := ((p.doPage q.page fun f => f.put q.off q.data).1, if (p.doPage q.page fun f => f.put q.off q.data).2 = 0 then ⟨true, 0, false, [], ⟨0, 0, 0, 0, 1, 0⟩⟩ else Re.dn (p.doPage q.page fun f => f.put q.off q.data).2)
theorem get_err {p : Pt} {page off n : Int} (h : (p.get page off n).2.2 ≠ 0) : (p.get page off n).2.1 = [] := by
 unfold Pt.get at *
 cases hg : mget p.tbl page with
 | none => rfl
 | some i =>
  rw [hg] at h
  simp only at h ⊢
  unfold Fr.get at *
  split
  · rfl
  ·
   rename_i h1
   rw [if_neg h1] at h
   split
   · rfl
   ·
    rename_i h2
    rw [if_neg h2] at h
    exact absurd rfl h
theorem Read_spec (m : Mc) (b bp : Nat) (H : HL) (hm : MAt m b bp H) (p : Pt) (hi : p.Inv) (Hp : HL) (hp : PtAt p bp Hp) (q : Rq) (ho : i64s q.off) (aq : Option Addr) (cq : Nat) (b1 : Nat) :
  Ctr Tryz.prog 290 [q.v aq cq, .pointer (some ⟨b1, 0, none⟩)] [Hp] ((b1, .cells #[.pointer (some ⟨b, 0, none⟩)] 249 (0, 0)) :: H) (fun v L' => ∃ a n c Hp' Hd, v = (mRead p q).2.v a n c ∧ L' = [Hp', Hd] ∧ PtAt (mRead p q).1 bp Hp' ∧ RoSl 1 (u8s (mRead p q).2.data) a n Hd ∧ (mRead p q).2.data.length = n) := by
 obtain ⟨t, g, ⟨at_, ct, rfl⟩, ⟨ag, cg, rfl⟩, hb⟩ := hm.head
 have hat : ∀ (y : Nat × Obj) L, At (y :: H) L b _ := fun y L => .inr (List.mem_cons_of_mem _ hb)
 have hG := PGet_spec p hi bp Hp hp q.page q.off q.len ho
 have hC := fun bs a n c => counted_spec (p.get q.page q.off q.len).2.2 bs a n c ⟨0, 0, 0, 1, 0, 0⟩
 have hge := fun h => get_err (p := p) (page := q.page) (off := q.off) (n := q.len) h
 have hmr : mRead p q = mRead p q := rfl
 conv at hmr => rhs; unfold mRead
 generalize mRead p q = out at *
 obtain ⟨qo, qp, qf, ql, qd⟩ := q
 simp only at *
 refine Ctr.enter (n := 24) [.cell 3 350] [(0, _), (1, _)] Tryz.func290 rfl rfl rfl (lb rfl) Tryz.call290 ⟨rfl, rfl, trivial⟩ ?_
 intro cx fin fin0
 refine aG ?_
 repeat (first | refine gw ?_ | refine gN fun _ => ?_ | refine gB fun _ => ?_ | fail)
 refine W.drawH tab_ok 16 [.b false, .b false, .b false, .b false, .b false, .b false, .b false, .b false, .b false, .b false, .b true, .b false, .b false, .b false, .b false, .b false] [2] follows (by decide +kernel) (by decide +kernel) rfl (by decide) rfl ?_
 intro _
 refine dG ?_
 repeat (first | refine dL ?_ | refine dS ?_ | (refine dN ?_; intro _; refine dG ?_) | (refine dB ?_; intro _; refine dG ?_) | fail)
 refine dV (OpVal.load tab_ok rfl (.inr (List.mem_append_right _ (List.mem_cons_of_mem _ hb))) rfl) ?_
 repeat (first | refine dL ?_ | refine dS ?_ | (refine dN ?_; intro _; refine dG ?_) | (refine dB ?_; intro _; refine dG ?_) | fail)
 refine dC (o := hG) (h := ?_)
 rintro _ _ ⟨a, n, c, Hp2, Hs, rfl, rfl, hp2, hrs, hrn⟩
 refine dG ?_
 refine WD.nil (W.dropNil (aG ?_))
 refine aBu (ps := [_]) ?_
 by_cases he : (p.get qp qf ql).2.2 = 0
 ·
  rw [if_pos he] at hmr
  subst hmr
  have hC1 := hC (p.get qp qf ql).2.1 a n c
  rw [if_pos he] at hC1
  refine aC (o := hC1) (h := ?_)
  rintro _ _ ⟨rfl, rfl⟩
  refine aG ?_
  repeat refine gw ?_
  refine W.ret (fin _ _ (FinOk.first 2 (aRc .nil) rfl ?_))
  exact ⟨_, _, _, _, _, rfl, rfl, hp2, hrs, hrn⟩
 ·
  rw [if_neg he] at hmr
  subst hmr
  have hC1 := hC (p.get qp qf ql).2.1 a n c
  rw [if_neg he] at hC1
  refine aC (o := hC1) (h := ?_)
  rintro _ _ ⟨rfl, rfl⟩
  refine aG ?_
  repeat refine gw ?_
  rw [hge he] at hrs hrn
  refine W.order [0, 1] rfl ?_
  refine W.nilChunk ?_
  refine W.order [1, 0, 0] rfl ?_
  refine W.ret (fin _ _ (FinOk.first 2 (aRc .nil) rfl ?_))
  exact ⟨_, _, _, _, _, rfl, rfl, hp2, ⟨rfl, .inl ⟨rfl, rfl⟩⟩, rfl⟩
theorem Write_spec (m : Mc) (b bp : Nat) (H : HL) (hm : MAt m b bp H) (p : Pt) (hi : p.Inv) (Hp : HL) (hp : PtAt p bp Hp) (q : Rq) (ho : i64s q.off) (aq : Option Addr) (cq : Nat) (rq : HL) (hrq : RoSl 1 (u8s q.data) aq q.data.length rq) (b1 : Nat) :
  Ctr Tryz.prog 293 [q.v aq cq, .pointer (some ⟨b1, 0, none⟩)] [Hp] ((b1, .cells #[.pointer (some ⟨b, 0, none⟩)] 249 (0, 0)) :: (H ++ rq)) (fun v L' => ∃ Hp', v = (mWrite p q).2.v none 0 0 ∧ L' = [Hp'] ∧ PtAt (mWrite p q).1 bp Hp') := by
 obtain ⟨t, g, ⟨at_, ct, rfl⟩, ⟨ag, cg, rfl⟩, hb⟩ := hm.head
 have hG := PPut_spec p hi bp Hp hp q.page q.off ho q.data aq cq rq hrq
 have hC := counted_spec (p.doPage q.page fun f => f.put q.off q.data).2 [] none 0 0 ⟨0, 0, 0, 0, 1, 0⟩
 have hmr : mWrite p q = mWrite p q := rfl
 conv at hmr => rhs; unfold mWrite
 generalize mWrite p q = out at *
 obtain ⟨qo, qp, qf, ql, qd⟩ := q
 simp only at *
 by_cases he : (p.doPage qp fun f => f.put qf qd).2 = 0
 case' pos => rw [if_pos he] at hmr hC
 case' neg => rw [if_neg he] at hmr hC
 all_goals
  subst hmr
  refine Ctr.enter (n := 17) [.cell 3 350] [(0, _), (1, _)] Tryz.func293 rfl rfl rfl (lb rfl) Tryz.call293 ⟨rfl, rfl, trivial⟩ ?_
  intro cx fin fin0
  refine aG ?_
  repeat (first | refine gw ?_ | refine gN fun _ => ?_ | refine gB fun _ => ?_ | fail)
  refine W.drawH tab_ok 14 [.b false, .b false, .b false, .b false, .b false, .b false, .b false, .b false, .b false, .b false, .b true, .b false, .b true, .b true] [0,2] follows (by decide +kernel) (by decide +kernel) rfl (by decide) rfl ?_
  intro _
  refine dG ?_
  repeat (first | refine dL ?_ | refine dS ?_ | (refine dN ?_; intro _; refine dG ?_) | (refine dB ?_; intro _; refine dG ?_) | fail)
  refine dV (OpVal.load tab_ok rfl (.inr (List.mem_append_right _ (List.mem_cons_of_mem _ (List.mem_append_left _ hb)))) rfl) ?_
  repeat (first | refine dL ?_ | refine dS ?_ | (refine dN ?_; intro _; refine dG ?_) | (refine dB ?_; intro _; refine dG ?_) | fail)
  refine dC (o := hG) (h := ?_) (hro := RoIn.all (fun q hq => List.mem_append_right _ (List.mem_cons_of_mem _ (List.mem_append_right _ hq))))
  rintro _ _ ⟨rfl, Hp2, rfl, hp2⟩
  refine dG ?_
  refine dV (OpVal.build (ps := [_]) tab_ok rfl rfl rfl rfl (by repeat (first | exact trivial | refine ⟨⟨_, _, _, rfl, rfl, rfl⟩, ?_⟩)) rfl) ?_
  refine dC (o := hC) (h := ?_)
  rintro _ _ ⟨rfl, rfl⟩
  refine dG ?_
  repeat (first | refine dL ?_ | refine dS ?_ | (refine dN ?_; intro _; refine dG ?_) | (refine dB ?_; intro _; refine dG ?_) | fail)
  refine WD.nil (W.dropNil (aG ?_))
  repeat refine gw ?_
  refine W.ret (fin _ _ (FinOk.first 1 (aRc .nil) rfl ?_))
  exact ⟨_, rfl, rfl, hp2⟩
theorem UnpinC_spec (m : Mc) (b bp : Nat) (H : HL) (hm : MAt m b bp H) (p : Pt) (hi : p.Inv) (Hp : HL) (hp : PtAt p bp Hp) (q : Rq) (aq : Option Addr) (cq : Nat) (b1 : Nat) :
  Ctr Tryz.prog 295 [q.v aq cq, .pointer (some ⟨b1, 0, none⟩)] [Hp] ((b1, .cells #[.pointer (some ⟨b, 0, none⟩)] 249 (0, 0)) :: H) (fun v L' => ∃ Hp', v = (Re.dn (p.doPage q.page Fr.unpin).2).v none 0 0 ∧ L' = [Hp'] ∧ PtAt (p.doPage q.page Fr.unpin).1 bp Hp') := by
 obtain ⟨t, g, ⟨at_, ct, rfl⟩, ⟨ag, cg, rfl⟩, hb⟩ := hm.head
 have hG := PUnpin_spec p hi bp Hp hp q.page
 have hC := done_spec (p.doPage q.page Fr.unpin).2
 obtain ⟨qo, qp, qf, ql, qd⟩ := q
 simp only at *
 refine Ctr.enter (n := 12) [.cell 3 350] [(0, _), (1, _)] Tryz.func295 rfl rfl rfl (lb rfl) Tryz.call295 ⟨rfl, rfl, trivial⟩ ?_
 intro cx fin fin0
 refine aG ?_
 repeat (first | refine gw ?_ | refine gN fun _ => ?_ | refine gB fun _ => ?_ | fail)
 refine W.drawH tab_ok 9 [.b false, .b false, .b false, .b false, .b false, .b false, .b true, .b true, .b true] [0,2] follows (by decide +kernel) (by decide +kernel) rfl (by decide) rfl ?_
 intro _
 refine dG ?_
 repeat (first | refine dL ?_ | refine dS ?_ | (refine dN ?_; intro _; refine dG ?_) | (refine dB ?_; intro _; refine dG ?_) | fail)
 refine dV (OpVal.load tab_ok rfl (.inr (List.mem_append_right _ (List.mem_cons_of_mem _ hb))) rfl) ?_
 repeat (first | refine dL ?_ | refine dS ?_ | (refine dN ?_; intro _; refine dG ?_) | (refine dB ?_; intro _; refine dG ?_) | fail)
 refine dC (o := hG) (h := ?_)
 rintro _ _ ⟨rfl, Hp2, rfl, hp2⟩
 refine dG ?_
 refine dC (o := hC) (h := ?_)
 rintro _ _ ⟨rfl, rfl⟩
 refine dG ?_
 repeat (first | refine dL ?_ | refine dS ?_ | (refine dN ?_; intro _; refine dG ?_) | (refine dB ?_; intro _; refine dG ?_) | fail)
 refine WD.nil (W.dropNil (aG ?_))
 repeat refine gw ?_
 refine W.ret (fin _ _ (FinOk.first 1 (aRc .nil) rfl ?_))
 exact ⟨_, rfl, rfl, hp2⟩
theorem FlushC_spec (m : Mc) (b bp : Nat) (H : HL) (hm : MAt m b bp H) (p : Pt) (hi : p.Inv) (Hp : HL) (hp : PtAt p bp Hp) (q : Rq) (aq : Option Addr) (cq : Nat) (b1 : Nat) :
  Ctr Tryz.prog 297 [q.v aq cq, .pointer (some ⟨b1, 0, none⟩)] [H] ((b1, .cells #[.pointer (some ⟨b, 0, none⟩)] 249 (0, 0)) :: Hp) (fun v L' => ∃ H', v = (⟨false, 0, false, [], C6.none⟩ : Re).v none 0 0 ∧ L' = [H'] ∧ MAt { m with todo := planFlush (selD p q.page p.dirty) } b bp H') := by
 have hF := MFlush_spec m b bp H hm p hi Hp hp q.page
 obtain ⟨qo, qp, qf, ql, qd⟩ := q
 simp only at *
 refine Ctr.enter (n := 8) [.cell 3 350] [(0, _), (1, _)] Tryz.func297 rfl rfl rfl (lb rfl) Tryz.call297 ⟨rfl, rfl, trivial⟩ ?_
 intro cx fin fin0
 refine aG ?_
 repeat (first | refine gw ?_ | refine gN fun _ => ?_ | refine gB fun _ => ?_ | fail)
 refine aC (o := hF) (h := ?_) (hro := RoIn.all (fun q hq => List.mem_cons_of_mem _ hq))
 rintro _ _ ⟨H2, rfl, rfl, hm2⟩
 refine aG ?_
 repeat refine gw ?_
 refine W.ret (fin _ _ (FinOk.first 1 (aRc .nil) rfl ?_))
 exact ⟨_, rfl, rfl, hm2⟩
theorem FlushAllC_spec (m : Mc) (b bp : Nat) (H : HL) (hm : MAt m b bp H) (p : Pt) (hi : p.Inv) (Hp : HL) (hp : PtAt p bp Hp) (q : Rq) (aq : Option Addr) (cq : Nat) (b1 : Nat) :
  Ctr Tryz.prog 299 [q.v aq cq, .pointer (some ⟨b1, 0, none⟩)] [H] ((b1, .cells #[.pointer (some ⟨b, 0, none⟩)] 249 (0, 0)) :: Hp) (fun v L' => ∃ H', v = (⟨false, 0, false, [], C6.none⟩ : Re).v none 0 0 ∧ L' = [H'] ∧ MAt { m with todo := planFlush (selD p (-1) p.dirty) } b bp H') := by
 have hF := MFlush_spec m b bp H hm p hi Hp hp (-1)
 obtain ⟨qo, qp, qf, ql, qd⟩ := q
 refine Ctr.enter (n := 6) [.cell 3 350] [(0, _), (1, _)] Tryz.func299 rfl rfl rfl (lb rfl) Tryz.call299 ⟨rfl, rfl, trivial⟩ ?_
 intro cx fin fin0
 refine aG ?_
 repeat (first | refine gw ?_ | refine gN fun _ => ?_ | refine gB fun _ => ?_ | fail)
 refine aC (o := hF) (h := ?_) (hro := RoIn.all (fun q hq => List.mem_cons_of_mem _ hq))
 rintro _ _ ⟨H2, rfl, rfl, hm2⟩
 refine aG ?_
 repeat refine gw ?_
 refine W.ret (fin _ _ (FinOk.first 1 (aRc .nil) rfl ?_))
 exact ⟨_, rfl, rfl, hm2⟩
theorem StatsC_spec (q : Rq) (aq : Option Addr) (cq : Nat) : Ctr Tryz.prog 301 [q.v aq cq] [] [] (fun v L' => v = (Re.dn 0).v none 0 0 ∧ L' = []) := by
 obtain ⟨qo, qp, qf, ql, qd⟩ := q
 refine Ctr.enter (n := 4) [.cell 2 350] [(0, _)] Tryz.func301 rfl rfl rfl (lb rfl) Tryz.call301 ⟨rfl, trivial⟩ ?_
 intro cx fin fin0
 refine aG ?_
 repeat (first | refine gw ?_ | refine gN fun _ => ?_ | refine gB fun _ => ?_ | fail)
 refine aC (o := done_spec 0) (h := ?_)
 rintro _ _ ⟨rfl, rfl⟩
 refine aG ?_
 repeat refine gw ?_
 refine W.ret (fin _ _ (FinOk.mk' ([]) (aRc .nil) (by repeat (first | exact Sel.nil | (apply Sel.cons; (repeat (first | exact Pick.here | apply Pick.there))))) rfl ?_))
 exact ⟨rfl, rfl⟩
def mOp (m : Mc) (p : Pt) (q : Rq) : Mc × Pt × Re :=
 if q.op = 1 then mFetch m p else if q.op = 2 then (m, mRead p q) else if q.op = 3 then (m, mWrite p q) else if q.op = 4 then (m, (p.doPage q.page Fr.unpin).1, Re.dn (p.doPage q.page Fr.unpin).2)
 else if q.op = 5 then ({ m with todo := planFlush (selD p q.page p.dirty) }, p, ⟨false, 0, false, [], C6.none⟩) else if q.op = 6 then ({ m with todo := planFlush (selD p (-1) p.dirty) }, p, ⟨false, 0, false, [], C6.none⟩)
 else if q.op = 7 then (m, (mDiscard p q.page).1, Re.dn (mDiscard p q.page).2) else (m, p, Re.dn 0)
def OpPost (r : Mc × Pt × Re) (b bp : Nat) (v : Value) (L' : List HL) : Prop := ∃ a n c H' Hp' Hd, v = r.2.2.v a n c ∧ L' = [H', Hp', Hd] ∧ MAt r.1 b bp H' ∧ PtAt r.2.1 bp Hp' ∧ RoSl 1 (u8s r.2.2.data) a n Hd ∧ r.2.2.data.length = n
def opV (b b1 : Nat) (k : Int) : Value :=
 if k = 1 then .func (.func 289) #[.pointer (some ⟨b, 0, none⟩)] #[] else if k = 2 then .func (.func 290) #[] #[.pointer (some ⟨b1, 0, none⟩)]
 else if k = 3 then .func (.func 293) #[] #[.pointer (some ⟨b1, 0, none⟩)] else if k = 4 then .func (.func 295) #[] #[.pointer (some ⟨b1, 0, none⟩)]
 else if k = 5 then .func (.func 297) #[] #[.pointer (some ⟨b1, 0, none⟩)] else if k = 6 then .func (.func 299) #[] #[.pointer (some ⟨b1, 0, none⟩)]
 else if k = 7 then .func (.func 300) #[.pointer (some ⟨b, 0, none⟩)] #[] else .func (.func 301) #[] #[]
def opsMap (b b1 : Nat) : List (Int × Value) := [(1, opV b b1 1), (2, opV b b1 2), (3, opV b b1 3), (4, opV b b1 4), (5, opV b b1 5), (6, opV b b1 6), (7, opV b b1 7), (8, opV b b1 8)]
theorem ops_get (b b1 : Nat) {k : Int} (h1 : 1 ≤ k) (h2 : k ≤ 8) : mget (opsMap b b1) k = some (opV b b1 k) := by
 obtain rfl | rfl | rfl | rfl | rfl | rfl | rfl | rfl : k = 1 ∨ k = 2 ∨ k = 3 ∨ k = 4 ∨ k = 5 ∨ k = 6 ∨ k = 7 ∨ k = 8 := by omega
 all_goals rfl
theorem empty_ro : RoSl 1 (u8s []) none 0 [] := ⟨rfl, .inl ⟨rfl, rfl⟩⟩
theorem Op_spec (m : Mc) (b bp : Nat) (H : HL) (hm : MAt m b bp H) (p : Pt) (hi : p.Inv) (Hp : HL) (hp : PtAt p bp Hp) (q : Rq) (h1 : 1 ≤ q.op) (h8 : q.op ≤ 8) (hq : q.page = m.page) (ho : i64s q.off) (aq : Option Addr) (cq : Nat) (rq : HL) (hrq : RoSl 1 (u8s q.data) aq q.data.length rq) (b1 : Nat) :
  CtrV Tryz.prog (opV b b1 q.op) [q.v aq cq] [Hp, H] ((b1, .cells #[.pointer (some ⟨b, 0, none⟩)] 249 (0, 0)) :: rq) (OpPost (mOp m p q) b bp) := by
 have hF := fetch_spec m b bp H hm p hi Hp hp q hq aq cq
 have hR := Read_spec m b bp H hm p hi Hp hp q ho aq cq b1
 have hW := Write_spec m b bp H hm p hi Hp hp q ho aq cq rq hrq b1
 have hU := UnpinC_spec m b bp H hm p hi Hp hp q aq cq b1
 have hFl := FlushC_spec m b bp H hm p hi Hp hp q aq cq b1
 have hFa := FlushAllC_spec m b bp H hm p hi Hp hp q aq cq b1
 have hD := Discard_spec m b bp H hm p hi Hp hp q aq cq
 have hS := StatsC_spec q aq cq
 have hop : q.op = 1 ∨ q.op = 2 ∨ q.op = 3 ∨ q.op = 4 ∨ q.op = 5 ∨ q.op = 6 ∨ q.op = 7 ∨ q.op = 8 := by omega
 have r1 : ∀ x ∈ ((b1, Obj.cells #[.pointer (some ⟨b, 0, none⟩)] 249 (0, 0)) :: H), x ∈ H ∨ x ∈ ((b1, Obj.cells #[.pointer (some ⟨b, 0, none⟩)] 249 (0, 0)) :: rq) := fun x hx => by
  rcases List.mem_cons.1 hx with rfl | hx
  · exact .inr (List.mem_cons_self)
  · exact .inl hx
 have r2 : ∀ x ∈ ((b1, Obj.cells #[.pointer (some ⟨b, 0, none⟩)] 249 (0, 0)) :: (H ++ rq)), x ∈ H ∨ x ∈ ((b1, Obj.cells #[.pointer (some ⟨b, 0, none⟩)] 249 (0, 0)) :: rq) := fun x hx => by
  rcases List.mem_cons.1 hx with rfl | hx
  · exact .inr (List.mem_cons_self)
  ·
   rcases List.mem_append.1 hx with hx | hx
   · exact .inl hx
   · exact .inr (List.mem_cons_of_mem _ hx)
 have r3 : ∀ x ∈ ((b1, Obj.cells #[.pointer (some ⟨b, 0, none⟩)] 249 (0, 0)) :: Hp), x ∈ Hp ∨ x ∈ ((b1, Obj.cells #[.pointer (some ⟨b, 0, none⟩)] 249 (0, 0)) :: rq) := fun x hx => by
  rcases List.mem_cons.1 hx with rfl | hx
  · exact .inr (List.mem_cons_self)
  · exact .inl hx
 rcases hop with h | h | h | h | h | h | h | h
 ·
  have e : mOp m p q = mFetch m p := by unfold mOp; rw [h]; rfl
  rw [e, h]
  refine Ctr.v (fst := [.pointer (some ⟨b, 0, none⟩)]) (cap := []) (((hF.sel (pre' := [Hp, H]) (X := []) (by repeat (first | exact Sel.nil | (apply Sel.cons; (repeat (first | exact Pick.here | apply Pick.there))))) (fun _ h => h)).ro (fun _ h => by cases h)).out ?_) rfl
  rintro _ _ ⟨_, rfl, H', Hp', rfl, rfl, h2, h3⟩
  have hd : (mFetch m p).2.2.data = [] := by
   unfold mFetch mMiss
   split
   · split <;> rfl
   · split <;> rfl
  exact ⟨[H', Hp'], [H', Hp', []], _, by repeat (first | exact Sel.nil | (apply Sel.cons; (repeat (first | exact Pick.here | apply Pick.there)))), by simp, none, 0, 0, _, _, _, rfl, rfl, h2, h3, by rw [hd]; exact empty_ro, by rw [hd]; rfl⟩
 ·
  have e : mOp m p q = (m, mRead p q) := by unfold mOp; rw [h]; rfl
  rw [e, h]
  refine Ctr.v (fst := []) (cap := [.pointer (some ⟨b1, 0, none⟩)]) ((hR.own r1).out ?_) rfl
  rintro _ _ ⟨_, rfl, a, n, c, Hp', Hd, rfl, rfl, h2, h3, h4⟩
  exact ⟨[H, Hp', Hd], [H, Hp', Hd], _, by repeat (first | exact Sel.nil | (apply Sel.cons; (repeat (first | exact Pick.here | apply Pick.there)))), rfl, a, n, c, _, _, _, rfl, rfl, hm, h2, h3, h4⟩
 ·
  have e : mOp m p q = (m, mWrite p q) := by unfold mOp; rw [h]; rfl
  rw [e, h]
  refine Ctr.v (fst := []) (cap := [.pointer (some ⟨b1, 0, none⟩)]) ((hW.own r2).out ?_) rfl
  rintro _ _ ⟨_, rfl, Hp', rfl, rfl, h2⟩
  have hd : (mWrite p q).2.data = [] := by unfold mWrite; simp only; split <;> rfl
  exact ⟨[H, Hp'], [H, Hp', []], _, by repeat (first | exact Sel.nil | (apply Sel.cons; (repeat (first | exact Pick.here | apply Pick.there)))), by simp, none, 0, 0, _, _, _, rfl, rfl, hm, h2, by rw [hd]; exact empty_ro, by rw [hd]; rfl⟩
 ·
  have e : mOp m p q = (m, (p.doPage q.page Fr.unpin).1, Re.dn (p.doPage q.page Fr.unpin).2) := by unfold mOp; rw [h]; rfl
  rw [e, h]
  refine Ctr.v (fst := []) (cap := [.pointer (some ⟨b1, 0, none⟩)]) ((hU.own r1).out ?_) rfl
  rintro _ _ ⟨_, rfl, Hp', rfl, rfl, h2⟩
  exact ⟨[H, Hp'], [H, Hp', []], _, by repeat (first | exact Sel.nil | (apply Sel.cons; (repeat (first | exact Pick.here | apply Pick.there)))), by simp, none, 0, 0, _, _, _, rfl, rfl, hm, h2, empty_ro, rfl⟩
 ·
  have e : mOp m p q = ({ m with todo := planFlush (selD p q.page p.dirty) }, p, ⟨false, 0, false, [], C6.none⟩) := by unfold mOp; rw [h]; rfl
  rw [e, h]
  refine Ctr.v (fst := []) (cap := [.pointer (some ⟨b1, 0, none⟩)]) (((hFl.own r3).sel (pre' := [Hp, H]) (X := []) (by repeat (first | exact Sel.nil | (apply Sel.cons; (repeat (first | exact Pick.here | apply Pick.there))))) (fun _ h => h)).out ?_) rfl
  rintro _ _ ⟨_, rfl, _, rfl, H', rfl, rfl, h2⟩
  exact ⟨[H', Hp], [H', Hp, []], _, by repeat (first | exact Sel.nil | (apply Sel.cons; (repeat (first | exact Pick.here | apply Pick.there)))), by simp, none, 0, 0, _, _, _, rfl, rfl, h2, hp, empty_ro, rfl⟩
 ·
  have e : mOp m p q = ({ m with todo := planFlush (selD p (-1) p.dirty) }, p, ⟨false, 0, false, [], C6.none⟩) := by unfold mOp; rw [h]; rfl
  rw [e, h]
  refine Ctr.v (fst := []) (cap := [.pointer (some ⟨b1, 0, none⟩)]) (((hFa.own r3).sel (pre' := [Hp, H]) (X := []) (by repeat (first | exact Sel.nil | (apply Sel.cons; (repeat (first | exact Pick.here | apply Pick.there))))) (fun _ h => h)).out ?_) rfl
  rintro _ _ ⟨_, rfl, _, rfl, H', rfl, rfl, h2⟩
  exact ⟨[H', Hp], [H', Hp, []], _, by repeat (first | exact Sel.nil | (apply Sel.cons; (repeat (first | exact Pick.here | apply Pick.there)))), by simp, none, 0, 0, _, _, _, rfl, rfl, h2, hp, empty_ro, rfl⟩
 ·
  have e : mOp m p q = (m, (mDiscard p q.page).1, Re.dn (mDiscard p q.page).2) := by unfold mOp; rw [h]; rfl
  rw [e, h]
  refine Ctr.v (fst := [.pointer (some ⟨b, 0, none⟩)]) (cap := []) ((hD.own (H := H) (fun _ h => .inl h)).out ?_) rfl
  rintro _ _ ⟨_, rfl, Hp', rfl, rfl, h2⟩
  exact ⟨[H, Hp'], [H, Hp', []], _, by repeat (first | exact Sel.nil | (apply Sel.cons; (repeat (first | exact Pick.here | apply Pick.there)))), by simp, none, 0, 0, _, _, _, rfl, rfl, hm, h2, empty_ro, rfl⟩
 ·
  have e : mOp m p q = (m, p, Re.dn 0) := by unfold mOp; rw [h]; rfl
  rw [e, h]
  refine Ctr.v (fst := []) (cap := []) (((hS.frame [Hp, H]).ro (fun _ h => by cases h)).out ?_) rfl
  rintro _ _ ⟨_, rfl, rfl, rfl⟩
  exact ⟨[H, Hp], [H, Hp, []], _, by repeat (first | exact Sel.nil | (apply Sel.cons; (repeat (first | exact Pick.here | apply Pick.there)))), by simp, none, 0, 0, _, _, _, rfl, rfl, hm, hp, empty_ro, rfl⟩
theorem Ops_spec (b : Nat) : Ctr Tryz.prog 264 [.pointer (some ⟨b, 0, none⟩)] [] [] (fun v L' => ∃ bm b1 Hm, v = .map (some bm) ∧ L' = [Hm, [(b1, .cells #[.pointer (some ⟨b, 0, none⟩)] 249 (0, 0))]] ∧ IsMp .i64 id (opsMap b b1) bm Hm) := by
 refine Ctr.enter (n := 14) [.tmp 2] [(0, _)] Tryz.func264 rfl rfl rfl (lb rfl) Tryz.call264 ⟨rfl, trivial⟩ ?_
 intro cx fin fin0
 refine aG ?_
 refine aB ?_
 intro b1
 refine aG ?_
 refine aW NewOf.map ?_
 intro bm
 refine aG ?_
 have hm0 : IsMp .i64 id ([] : List (Int × Value)) bm [(bm, .map #[] 0)] := ⟨#[], 0, rfl, rfl⟩
 generalize hH : [(bm, Obj.map #[] 0)] = Hm0 at hm0
 repeat refine gw ?_
 refine aSkp (mapIns (f := id) (v := opV b b1 1) Tryz.underlying380 Tryz.underlying3 rfl rfl rfl (by intro p hp; simp [hp]) hm0) ?_
 rintro _ ⟨Hm1, rfl, hm1⟩
 refine aG ?_
 repeat refine gw ?_
 refine aSkp (mapIns (f := id) (v := opV b b1 2) Tryz.underlying380 Tryz.underlying3 rfl rfl rfl (by intro p hp; simp [hp]) hm1) ?_
 rintro _ ⟨Hm2, rfl, hm2⟩
 refine aG ?_
 repeat refine gw ?_
 refine aSkp (mapIns (f := id) (v := opV b b1 3) Tryz.underlying380 Tryz.underlying3 rfl rfl rfl (by intro p hp; simp [hp]) hm2) ?_
 rintro _ ⟨Hm3, rfl, hm3⟩
 refine aG ?_
 repeat refine gw ?_
 refine aSkp (mapIns (f := id) (v := opV b b1 4) Tryz.underlying380 Tryz.underlying3 rfl rfl rfl (by intro p hp; simp [hp]) hm3) ?_
 rintro _ ⟨Hm4, rfl, hm4⟩
 refine aG ?_
 repeat refine gw ?_
 refine aSkp (mapIns (f := id) (v := opV b b1 5) Tryz.underlying380 Tryz.underlying3 rfl rfl rfl (by intro p hp; simp [hp]) hm4) ?_
 rintro _ ⟨Hm5, rfl, hm5⟩
 refine aG ?_
 repeat refine gw ?_
 refine aSkp (mapIns (f := id) (v := opV b b1 6) Tryz.underlying380 Tryz.underlying3 rfl rfl rfl (by intro p hp; simp [hp]) hm5) ?_
 rintro _ ⟨Hm6, rfl, hm6⟩
 refine aG ?_
 repeat refine gw ?_
 refine aSkp (mapIns (f := id) (v := opV b b1 7) Tryz.underlying380 Tryz.underlying3 rfl rfl rfl (by intro p hp; simp [hp]) hm6) ?_
 rintro _ ⟨Hm7, rfl, hm7⟩
 refine aG ?_
 repeat refine gw ?_
 refine aSkp (mapIns (f := id) (v := opV b b1 8) Tryz.underlying380 Tryz.underlying3 rfl rfl rfl (by intro p hp; simp [hp]) hm7) ?_
 rintro _ ⟨Hm8, rfl, hm8⟩
 refine aG ?_
 repeat refine gw ?_
 refine W.ret (fin _ _ (FinOk.first 2 (.tmp rfl .nil) rfl ?_))
 exact ⟨bm, b1, _, rfl, rfl, hm8⟩
end Go.Proofs.YtfpghdcjdnifcaaGreat
namespace Go.Proofs.YtfpghdcjdnifcaaGreat
open Go Go.Sl Go.IntWalk
set_option maxHeartbeats 8000000
set_option maxRecDepth 20000
def mBegin (m : Mc) (p : Pt) (q : Rq) : Mc × Pt × Re := mOp { m with op := q.op, page := q.page } p q
theorem Begin_spec (m : Mc) (b bp : Nat) (H : HL) (hm : MAt m b bp H) (p : Pt) (hi : p.Inv) (Hp : HL) (hp : PtAt p bp Hp) (q : Rq) (h1 : 1 ≤ q.op) (h8 : q.op ≤ 8) (ho : i64s q.off) (aq : Option Addr) (cq : Nat) (rq : HL) (hrq : RoSl 1 (u8s q.data) aq q.data.length rq) :
  Ctr Tryz.prog 230 [.pointer (some ⟨b, 0, none⟩), q.v aq cq] [H, Hp] rq (OpPost (mBegin m p q) b bp) := by
 obtain ⟨a, ct, ag, cg, Ht, Hg, rfl, hro, hct, hown⟩ := hm
 have hops := Ops_spec b
 have hCV := fun b1 H1 hm1 => Op_spec { m with op := q.op, page := q.page } b bp H1 hm1 p hi Hp hp q h1 h8 rfl ho aq cq rq hrq b1
 have hget := fun b1 => ops_get b b1 h1 h8
 have hb : mBegin m p q = mOp { m with op := q.op, page := q.page } p q := rfl
 rw [hb]
 generalize mOp { m with op := q.op, page := q.page } p q = out at *
 obtain ⟨qo, qp, qf, ql, qd⟩ := q
 simp only at *
 refine Ctr.enter (n := 22) [.cell 4 350] [(0, _), (1, _)] Tryz.func230 rfl rfl rfl (lb rfl) Tryz.call230 ⟨rfl, rfl, trivial⟩ ?_
 intro cx fin fin0
 refine aG ?_
 repeat (first | refine gw ?_ | refine gN fun _ => ?_ | refine gB fun _ => ?_ | fail)
 refine W.order [2, 0, 0, 0] rfl ?_
 refine W.split3 rfl ?_
 refine aG ?_
 refine W.drawH tab_ok 12 [.b false, .b false, .b false, .b false, .b false, .b false, .b false, .b false, .b true, .b false, .b false, .b true] [0] follows (by decide +kernel) (by decide +kernel) rfl (by decide) rfl ?_
 intro _
 refine dG ?_
 repeat (first | refine dL ?_ | refine dS ?_ | (refine dN ?_; intro _; refine dG ?_) | (refine dB ?_; intro _; refine dG ?_) | fail)
 refine WD.nil (W.dropNil (aG ?_))
 refine W.groupV [0, 0, 0] rfl ?_
 have hm1 : MAt ⟨qo, qp, m.to, m.todo, m.got⟩ b bp _ := ⟨a, ct, ag, cg, Ht, Hg, rfl, hro, hct, hown⟩
 have hCV1 := fun b1 => hCV b1 _ hm1
 refine aG ?_
 refine W.drawH tab_ok 8 [.b false, .b true, .b false, .b false, .b true, .b false, .b true, .b true] [0,1,3] follows (by decide +kernel) (by decide +kernel) rfl (by decide) rfl ?_
 intro _
 refine dG ?_
 refine dC (o := hops) (h := ?_)
 rintro _ _ ⟨bm, b1, Hm, rfl, rfl, es, clock, rfl, hmap⟩
 refine dG ?_
 repeat (first | refine dL ?_ | refine dS ?_ | (refine dN ?_; intro _; refine dG ?_) | (refine dB ?_; intro _; refine dG ?_) | fail)
 refine dVA (OpVal.lookup1 Tryz.underlying380 Tryz.underlying3 rfl rfl (at_own 0 rfl) hmap (hget b1)) ?_
 repeat (first | refine dL ?_ | refine dS ?_ | (refine dN ?_; intro _; refine dG ?_) | (refine dB ?_; intro _; refine dG ?_) | fail)
 refine WD.callV rfl rfl rfl (hCV1 b1) (by repeat (first | exact Sel.nil | (apply Sel.cons; (repeat (first | exact Pick.here | apply Pick.there))))) (RoIn.cons (at_own 1 rfl) (RoIn.all fun q hq => List.mem_append_right _ hq)) (lb rfl) ?_
 rintro _ _ ⟨an, nn, cn, H', Hp', Hd, rfl, rfl, g1, g2, g3, g4⟩
 refine dG ?_
 repeat (first | refine dL ?_ | refine dS ?_ | (refine dN ?_; intro _; refine dG ?_) | (refine dB ?_; intro _; refine dG ?_) | fail)
 refine WD.nil (W.dropNil (aG ?_))
 repeat refine gw ?_
 refine W.ret (fin _ _ (FinOk.first 3 (aRc .nil) rfl ?_))
 exact ⟨_, _, _, _, _, _, rfl, rfl, g1, g2, g3, g4⟩
def mStep (m : Mc) (p : Pt) (bs : List Int) : Mc × Pt × C6 :=
 if m.io.1 = 2 ∧ m.io.2.2 = 1 then ({ m with todo := m.todo.tail }, mStored m p m.io.2.1) else if m.io.1 = 1 then ({ m with todo := m.todo.tail, got := m.got ++ bs }, p, C6.none) else ({ m with todo := m.todo.tail }, p, C6.none)
def mEnd (m : Mc) (p : Pt) (e : Int) (bs : List Int) : Mc × Pt × Re :=
 if e ≠ 0 then (Mc.idle, p, ⟨true, 9, false, [], ⟨0, 0, 0, 0, 0, 1⟩⟩)
 else if 0 < (mStep m p bs).1.todo.length then ((mStep m p bs).1, (mStep m p bs).2.1, ⟨false, 0, false, [], (mStep m p bs).2.2⟩)
 else (Mc.idle, if m.op = 1 then (((mStep m p bs).2.1.load m.to m.page (mStep m p bs).1.got).1.doPage m.page Fr.pin).1 else (mStep m p bs).2.1, ⟨true, 0, false, [], (mStep m p bs).2.2⟩)
end Go.Proofs.YtfpghdcjdnifcaaGreat
namespace Go.Proofs.YtfpghdcjdnifcaaGreat
open Go Go.Sl Go.IntWalk
set_option maxHeartbeats 8000000
set_option maxRecDepth 20000
theorem turn_some {hand : Nat} : ∀ {m k : Nat} {fs : List Fl} {i q : Nat}, (turnFrom hand m k fs).2 = some (i, q) → 0 < fs.length → i < fs.length ∧ (((turnFrom hand m k fs).1.getD i Fl.none).used = false ∨ ((turnFrom hand m k fs).1.getD i Fl.none).pins = 0)
 | 0, k, fs, i, q, h, _ => by cases h
 | m + 1, k, fs, i, q, h, h0 => by
  have hc := Nat.mod_lt (hand + k) h0
  unfold turnFrom at h ⊢
  split at h
  ·
   rename_i hg
   simp only [Option.some.injEq, Prod.mk.injEq] at h
   obtain ⟨rfl, -⟩ := h
   rw [if_pos hg]
   refine ⟨hc, ?_⟩
   simp only
   rw [getD_set_eq hc]
   generalize fs.getD ((hand + k) % fs.length) Fl.none = f at hg
   unfold Fl.goes at hg ⊢
   split
   · rename_i hu; exact .inl hu
   ·
    rename_i hu
    rw [if_neg hu] at hg
    split
    · rename_i hp; exact .inr hp
    · rename_i hp; rw [if_neg hp] at hg; cases hg
  ·
   rename_i hg
   rw [if_neg hg]
   have := turn_some h (by simpa using h0)
   simpa using this
theorem victim_some {p : Pt} (hi : p.Inv) {i : Nat} (h : p.victim.2 = some i) : i < p.victim.1.fs.length ∧ (p.victim.1.at_ (i : Int)).pins = 0 := by
 have hl : p.victim.1.fs.length = p.fs.length := setAll_len _ _
 have h1 := hi.ok.2.1
 have hv := Pt.victim_inv hi
 unfold Pt.victim at h
 simp only [Option.map_eq_some_iff, Prod.exists, exists_and_right, exists_eq_right] at h
 obtain ⟨q, hq⟩ := h
 have := turn_some hq (by simp; omega)
 obtain ⟨h2, h3⟩ := this
 have h4 : i < p.fs.length := by simpa using h2
 refine ⟨by omega, ?_⟩
 rw [Pt.at_nat (by omega)]
 have h5 : (turnFrom p.hand.toNat (2 * p.fs.length) 0 (p.fs.map Fr.fl)).1.length = p.fs.length := by rw [turnFrom_len]; simp
 have h6 : p.victim.1.fs[i]'(by omega) = p.fs[i].setFl ((turnFrom p.hand.toNat (2 * p.fs.length) 0 (p.fs.map Fr.fl)).1[i]'(by omega)) := setAll_get _ _ i (by rw [setAll_len]; exact h4) h4 (by omega)
 have h7 : (turnFrom p.hand.toNat (2 * p.fs.length) 0 (p.fs.map Fr.fl)).1.getD i Fl.none = (turnFrom p.hand.toNat (2 * p.fs.length) 0 (p.fs.map Fr.fl)).1[i]'(by omega) := getD_eq (by omega)
 rw [h7] at h3
 rcases h3 with h3 | h3
 ·
  have h8 := hv.emp (p.victim.1.fs[i]'(by omega)) (List.getElem_mem _) (by rw [h6]; exact h3)
  rw [h8]
  rfl
 ·
  rw [h6]
  exact h3
def DocM (m : Mc) (p : Pt) (v : Value) (D : HL) : Prop := ∃ a c r at_ ct rt ag cg rg, v = .agg (List.toArray [.slice a p.fs.length c, .int .i64 p.hand, .int .i64 m.op, .int .i64 m.page, .slice at_ m.todo.length ct, .int .i64 m.to, .slice ag m.got.length cg]) ∧
 RoSl 6 (dflat p.fs) a p.fs.length r ∧ RoSl 3 (ios m.todo) at_ m.todo.length rt ∧ RoSl 1 (u8s m.got) ag m.got.length rg ∧ m.todo.length ≤ ct ∧ (∀ q ∈ r, q ∈ D) ∧ (∀ q ∈ rt, q ∈ D) ∧ (∀ q ∈ rg, q ∈ D)
theorem DocM.mono {m : Mc} {p : Pt} {v : Value} {D D' : HL} (h : DocM m p v D) (hs : ∀ q ∈ D, q ∈ D') : DocM m p v D' := by
 obtain ⟨a, c, r, at_, ct, rt, ag, cg, rg, h1, h2, h3, h4, h5, h6, h7, h8⟩ := h
 exact ⟨a, c, r, at_, ct, rt, ag, cg, rg, h1, h2, h3, h4, h5, fun q hq => hs q (h6 q hq), fun q hq => hs q (h7 q hq), fun q hq => hs q (h8 q hq)⟩
def Re.d (r : Re) : Value := .agg #[.bool r.done, .int .i64 r.errno, .bool r.hit, .string (bstr r.data), .int .u64 r.add.h, .int .u64 r.add.m, .int .u64 r.add.e, .int .u64 r.add.r, .int .u64 r.add.w, .int .u64 r.add.f]
end Go.Proofs.YtfpghdcjdnifcaaGreat
namespace Go.Proofs.YtfpghdcjdnifcaaGreat
open Go Go.Sl Go.IntWalk
set_option maxHeartbeats 8000000
set_option maxRecDepth 20000
theorem DocM.keep {m' : Mc} {p' : Pt} {a c r at_ ct rt ag cg rg} {D H : HL} (h2 : RoSl 6 (dflat p'.fs) a p'.fs.length r) (h3 : RoSl 3 (ios m'.todo) at_ m'.todo.length rt) (h4 : RoSl 1 (u8s m'.got) ag m'.got.length rg) (h5 : m'.todo.length ≤ ct)
  (h6 : ∀ q ∈ r, q ∈ H ++ D) (h7 : ∀ q ∈ rt, q ∈ H ++ D) (h8 : ∀ q ∈ rg, q ∈ D) :
  DocM m' p' (.agg (List.toArray [.slice a p'.fs.length c, .int .i64 p'.hand, .int .i64 m'.op, .int .i64 m'.page, .slice at_ m'.todo.length ct, .int .i64 m'.to, .slice ag m'.got.length cg])) (H ++ D) :=
 ⟨a, c, r, at_, ct, rt, ag, cg, rg, rfl, h2, h3, h4, h5, h6, h7, fun q hq => List.mem_append_right _ (h8 q hq)⟩
end Go.Proofs.YtfpghdcjdnifcaaGreat
namespace Go.Proofs.YtfpghdcjdnifcaaGreat
open Go Go.Sl Go.IntWalk
set_option maxHeartbeats 8000000
set_option maxRecDepth 20000
def dpgs (fs : List Fr) (g : Fr → Bool) : List Int := (fs.filter fun f => f.dirty && g f).map Fr.page
theorem selD_from (p : Pt) (page : Int) : ∀ (fs : List Fr) (k : Nat), (∀ i (h : i < fs.length), p.at_ ((k + i : Nat) : Int) = fs[i]) → selD p page (dirtyFrom fs k) = dpgs fs fun f => decide (page < 0) || decide (f.page = page)
 | [], _, _ => rfl
 | f :: fs, k, h => by
  have h0 := h 0 (by simp)
  simp only [Nat.add_zero, List.getElem_cons_zero] at h0
  have ih := selD_from p page fs (k + 1) fun i hi => by
   have := h (i + 1) (by simp; omega)
   rw [show k + 1 + i = k + (i + 1) by omega, this]
   rfl
  unfold selD dpgs at ih ⊢
  unfold dirtyFrom
  by_cases hd : f.dirty = true
  ·
   rw [if_pos hd, List.filter_cons, List.filter_cons, h0]
   simp only [hd, Bool.true_and]
   split
   · simp only [List.map_cons, h0, ih]
   · exact ih
  ·
   rw [if_neg hd, List.filter_cons, if_neg (by simp [hd])]
   exact ih
theorem selD_eq (p : Pt) (page : Int) : selD p page p.dirty = dpgs p.fs fun f => decide (page < 0) || decide (f.page = page) :=
 selD_from p page p.fs 0 fun i h => by rw [Nat.zero_add]; exact Pt.at_nat h
end Go.Proofs.YtfpghdcjdnifcaaGreat
namespace Go.Proofs.YtfpghdcjdnifcaaGreat
open Go Go.Sl Go.IntWalk
set_option maxHeartbeats 8000000
set_option maxRecDepth 20000
end Go.Proofs.YtfpghdcjdnifcaaGreat
namespace Go.Proofs.YtfpghdcjdnifcaaGreat
open Go Go.Sl Go.IntWalk
set_option maxHeartbeats 8000000
set_option maxRecDepth 20000
end Go.Proofs.YtfpghdcjdnifcaaGreat
namespace Go.Proofs.YtfpghdcjdnifcaaGreat
set_option linter.unusedVariables false
open Go Go.Sl Go.IntWalk
set_option maxHeartbeats 4000000
set_option maxRecDepth 20000
def lds (t : List Io) : Nat := (t.filter fun x => decide (x.1 = 1)).length
structure MInv (m : Mc) (p : Pt) : Prop where
 inv : p.Inv
 u8 : u8ok m.got
 idle : m.todo = [] → m.got = []
 room : m.got.length + 16 * lds m.todo ≤ 32
 sto : ∀ x ∈ m.todo, x.1 = 2 → (x.2.2 = 0 ∨ x.2.2 = 1) ∧ ∃ j : Nat, j < p.fs.length ∧ mget p.tbl x.2.1 = some (j : Int) ∧ (m.op = 1 → (p.at_ j).pins = 0)
 one : m.op = 1 → ∀ l x r, m.todo = l ++ x :: r → x.1 = 2 → x.2.2 = 1 → ∀ y ∈ r, y.1 ≠ 2
theorem MInv.same {m m' : Mc} {p p' : Pt} (hp : p'.Inv) (ht : m'.todo = []) (hg : m'.got = []) : MInv m' p' :=
 ⟨hp, by rw [hg]; (intro b hb; cases hb), fun _ => hg, by rw [hg, ht]; decide, (by rw [ht]; intro x hx; cases hx), by rw [ht]; intro _ l x r h; simp at h⟩
theorem idle_inv {p : Pt} (hp : p.Inv) : MInv Mc.idle p := MInv.same (m := Mc.idle) (p := p) hp rfl rfl
theorem mem_pages {k : Int} {ps : List Int} {x : Io} (h : x ∈ pages k ps) : x.1 = k ∧ x.2.1 ∈ ps ∧ (x.2.2 = 0 ∨ x.2.2 = 1) := by
 unfold pages at h
 obtain ⟨q, hq, hx⟩ := List.mem_flatMap.1 h
 simp only [both, List.mem_cons, List.not_mem_nil, or_false] at hx
 rcases hx with rfl | rfl
 · exact ⟨rfl, hq, .inl rfl⟩
 · exact ⟨rfl, hq, .inr rfl⟩
theorem lds_pages2 (ps : List Int) : lds (pages 2 ps) = 0 := by
 unfold lds
 rw [List.filter_eq_nil_iff.2]
 · rfl
 ·
  intro x hx
  rw [(mem_pages hx).1]
  decide
theorem lds_append (a b : List Io) : lds (a ++ b) = lds a + lds b := by unfold lds; simp
theorem dirty_used {p : Pt} (hi : p.Inv) {j : Nat} (hj : j < p.fs.length) (hd : p.fs[j].dirty = true) : p.fs[j].used = true := by
 by_cases hu : p.fs[j].used = true
 · exact hu
 ·
  have := hi.emp _ (List.getElem_mem hj) (by simpa using hu)
  rw [this] at hd
  cases hd
theorem mem_dpgs {p : Pt} (hi : p.Inv) {g : Fr → Bool} {x : Int} (h : x ∈ dpgs p.fs g) : ∃ j : Nat, j < p.fs.length ∧ mget p.tbl x = some (j : Int) := by
 unfold dpgs at h
 obtain ⟨f, hf, rfl⟩ := List.mem_map.1 h
 obtain ⟨hf1, hf2⟩ := List.mem_filter.1 hf
 obtain ⟨j, hj, rfl⟩ := List.getElem_of_mem hf1
 simp only [Bool.and_eq_true] at hf2
 exact ⟨j, hj, hi.inv j hj (dirty_used hi hj hf2.1)⟩
theorem flush_inv {m : Mc} {p : Pt} (hi : p.Inv) (hop : m.op ≠ 1) (hg : m.got = []) (ds : List Int) (hds : ∀ x ∈ ds, ∃ j : Nat, j < p.fs.length ∧ mget p.tbl x = some (j : Int)) : MInv { m with todo := planFlush ds } p := by
 refine ⟨hi, by rw [hg]; (intro b hb; cases hb), fun h => hg, ?_, fun x hx hk => ?_, fun h => absurd h hop⟩
 ·
  simp only
  rw [hg]
  unfold planFlush
  rw [lds_append, lds_pages2]
  decide
 ·
  simp only [planFlush, List.mem_append, List.mem_cons, List.not_mem_nil, or_false] at hx
  rcases hx with hx | rfl
  ·
   obtain ⟨h1, h2, h3⟩ := mem_pages hx
   obtain ⟨j, hj, h4⟩ := hds _ h2
   exact ⟨h3, j, hj, h4, fun h => absurd h hop⟩
  · exact absurd hk (by decide)
theorem begin_inv {m : Mc} {p : Pt} (h : MInv m p) (ht : m.todo = []) {q : Rq} (h1 : 1 ≤ q.op) (h8 : q.op ≤ 8) (hu : u8ok q.data) : MInv (mBegin m p q).1 (mBegin m p q).2.1 := by
 have hi := h.inv
 have hg := h.idle ht
 have hop : q.op = 1 ∨ q.op = 2 ∨ q.op = 3 ∨ q.op = 4 ∨ q.op = 5 ∨ q.op = 6 ∨ q.op = 7 ∨ q.op = 8 := by omega
 obtain ⟨qo, qp, qf, ql, qd⟩ := q
 simp only at hop hu
 rcases hop with rfl | rfl | rfl | rfl | rfl | rfl | rfl | rfl
 ·
  show MInv (mFetch ⟨1, qp, m.to, m.todo, m.got⟩ p).1 (mFetch ⟨1, qp, m.to, m.todo, m.got⟩ p).2.1
  unfold mFetch
  simp only
  split
  · exact MInv.same (m := m) (p := p) (Pt.doPage_inv hi qp pin_keeps) ht hg
  ·
   have hvi := Pt.victim_inv hi
   unfold mMiss
   cases hv : p.victim.2 with
   | none => exact MInv.same (m := m) (p := p) hvi ht hg
   | some i =>
    obtain ⟨hj, hp0⟩ := victim_some hi hv
    simp only
    cases hd : (p.victim.1.at_ (i : Int)).dirty with
    | false =>
     have hi2 : (if (p.victim.1.at_ (i : Int)).used = true ∧ False then (p.victim.1.release (i : Int)).1 else p.victim.1).Inv := by
      split
      · exact Pt.release_inv hvi _
      · exact hvi
     refine ⟨?_, by rw [hg]; (intro b hb; cases hb), fun _ => hg, ?_, fun x hx hk => ?_, fun _ l x r hl hk => ?_⟩
     ·
      split
      · exact Pt.release_inv hvi _
      · exact hvi
     · rw [hg]; exact Nat.le_refl 32
     ·
      simp only [planFetch] at hx
      rw [if_neg (by simp)] at hx
      have := (mem_pages (by simpa using hx)).1
      omega
     ·
      have hx : x ∈ planFetch qp false (p.victim.1.at_ (i : Int)).page := by
       have e : planFetch qp false (p.victim.1.at_ (i : Int)).page = l ++ x :: r := hl
       rw [e]; simp
      simp only [planFetch] at hx
      rw [if_neg (by simp)] at hx
      have := (mem_pages (by simpa using hx)).1
      omega
    | true =>
     rw [if_neg (by simp)]
     have hus : (p.victim.1.at_ (i : Int)).used = true := by
      rw [Pt.at_nat hj] at hd ⊢
      exact dirty_used hvi hj hd
     refine ⟨hvi, by rw [hg]; (intro b hb; cases hb), fun _ => hg, ?_, fun x hx hk => ?_, fun _ l x r hl hk hk2 y hy => ?_⟩
     · rw [hg]; exact Nat.le_refl 32
     ·
      have hx2 : x ∈ planFetch qp true (p.victim.1.at_ (i : Int)).page := hx
      simp only [planFetch, if_true, List.mem_append] at hx2
      rcases hx2 with hx2 | hx2
      ·
       obtain ⟨_, h2, h3⟩ := mem_pages hx2
       simp only [List.mem_cons, List.not_mem_nil, or_false] at h2
       refine ⟨h3, i, hj, ?_, fun _ => hp0⟩
       rw [h2, Pt.at_nat hj]
       rw [Pt.at_nat hj] at hus
       exact hvi.inv i hj hus
      ·
       have := (mem_pages hx2).1
       omega
     ·
      generalize (p.victim.1.at_ (i : Int)).page = o at hl
      have hl2 : [((2 : Int), o, (0 : Int)), (2, o, 1), (1, qp, 0), (1, qp, 1)] = l ++ x :: r := hl
      match l, hl2 with
      | [], e => simp only [List.nil_append, List.cons.injEq] at e; obtain ⟨rfl, -⟩ := e; exact absurd hk2 (by simp)
      | [_], e =>
       simp only [List.cons_append, List.nil_append, List.cons.injEq] at e
       obtain ⟨-, rfl, rfl⟩ := e
       simp only [List.mem_cons, List.not_mem_nil, or_false] at hy
       rcases hy with rfl | rfl <;> simp
      | [_, _], e => simp only [List.cons_append, List.nil_append, List.cons.injEq] at e; obtain ⟨-, -, rfl, -⟩ := e; exact absurd hk (by simp)
      | [_, _, _], e => simp only [List.cons_append, List.nil_append, List.cons.injEq] at e; obtain ⟨-, -, -, rfl, -⟩ := e; exact absurd hk (by simp)
      | _ :: _ :: _ :: _ :: l, e => simp at e
 · exact MInv.same (m := m) (p := p) (Pt.get_inv hi qp qf ql) ht hg
 · exact MInv.same (m := m) (p := p) (Pt.doPage_inv hi qp (put_keeps qf hu)) ht hg
 · exact MInv.same (m := m) (p := p) (Pt.doPage_inv hi qp unpin_keeps) ht hg
 · exact flush_inv (m := ⟨5, qp, m.to, m.todo, m.got⟩) hi (by simp) hg _ (fun x hx => by rw [selD_eq] at hx; exact mem_dpgs hi hx)
 · exact flush_inv (m := ⟨6, qp, m.to, m.todo, m.got⟩) hi (by simp) hg _ (fun x hx => by rw [selD_eq] at hx; exact mem_dpgs hi hx)
 ·
  show MInv ⟨7, qp, m.to, m.todo, m.got⟩ (mDiscard p qp).1
  refine MInv.same (m := m) (p := p) ?_ ht hg
  unfold mDiscard
  split
  · exact hi
  · exact Pt.release_inv hi _
 · exact MInv.same (m := m) (p := p) hi ht hg
end Go.Proofs.YtfpghdcjdnifcaaGreat
namespace Go.Proofs.YtfpghdcjdnifcaaGreat
open Go Go.Sl Go.IntWalk
set_option maxHeartbeats 8000000
set_option maxRecDepth 20000
end Go.Proofs.YtfpghdcjdnifcaaGreat
namespace Go.Sl
open Go
theorem Lf.congr {Y M L' : List HL} {w w' : World} (h : Y.flatten = M.flatten) (hl : Lf M L' w w') : Lf Y L' w w' := by
 unfold Lf at *
 rw [h]
 exact hl
end Go.Sl
namespace Go.Proofs.YtfpghdcjdnifcaaGreat
open Go Go.Sl
theorem dAp {n : Nat} {R : HL} {cx : Cx} {ρ : Env} {Y rest : List HL} {ops : Array Oper} {K : Env → List HL → Prop} {el : List Kd} {fl : List (Nat × Obj)} {d : Nat} {ty t : TypeId} {x y : Operand} {pos : String} {af : Array Edge} {l : List Oper} {m e bytes len cap nx cxx bx ox : Nat} {cs news : List Value} {a : Option Addr} {H : HL} {lx : List Value} {ex : TypeId} {frx : Nat × Nat} (ho : Own m e cs a len cap H)
  (hk : ∀ v L', (∃ a' cap' H', v = .slice a' (len + nx) cap' ∧ L' = [H'] ∧ Own m e (cs ++ news) a' (len + nx) cap' H') → WD Tryz.prog n R cx ops el fl l ((d, v) :: ρ) (L' ++ rest) K)
  (ht : look? tab.sls t = some e := by exact rfl) (hi : look? tab.infs e = some (m, bytes) := by exact rfl) (hs : ev? ρ x = some (.slice a len cap) := by exact rfl) (hH : ∀ p ∈ H, p ∈ Y.flatten := by (intro p hp; simp [hp]))
  (hx : ev? ρ y = some (.slice (some ⟨bx, ox, none⟩) nx cxx) := by exact rfl) (hb : At R Y bx (.cells lx.toArray ex frx) := by repeat (first | exact oh | exact rh | exact rhF | apply ot | apply raF | apply rt)) (hn : seg? lx ox (nx * m) = some news := by exact rfl)
  (h1 : allOne news = true := by exact rfl) (hbig : (len + nx) * bytes ≤ 140737488355328 := by omega) (hbig2 : len + nx ≤ 140737488355328 := by omega)
  (hsel : Sel Y [H] rest := by repeat (first | exact Sel.nil | (apply Sel.cons; (repeat (first | exact Pick.here | apply Pick.there))))) (hd : d < n := by exact lb rfl) :
  WD Tryz.prog n R cx ops (.b true :: el) fl (⟨some d, .call ⟨.builtin .append, #[x, y], #[t, t]⟩, ty, pos, af, none⟩ :: l) ρ Y K :=
 WD.prim (app tab_ok ht hi hs ho hH hx hb hn h1 hbig hbig2) hsel hd hk
end Go.Proofs.YtfpghdcjdnifcaaGreat
namespace Go.Proofs.YtfpghdcjdnifcaaGreat
open Go Go.Sl Go.IntWalk
set_option maxHeartbeats 8000000
set_option maxRecDepth 20000
structure Rq.Ok (q : Rq) : Prop where
 op : 1 ≤ q.op ∧ q.op ≤ 8
 page : 0 ≤ q.page
 off : i64s q.off
 len : i64s q.len
 u8 : u8ok q.data
 dl : q.data.length ≤ 1000000
end Go.Proofs.YtfpghdcjdnifcaaGreat
namespace Go.Proofs.YtfpghdcjdnifcaaGreat
open Go Go.Sl Go.IntWalk
set_option maxHeartbeats 4000000
set_option maxRecDepth 20000
set_option linter.unusedVariables false
theorem roOwn (b : Nat) (bs : List Int) (e : Nat) : RoSl 1 (u8s bs) (some ⟨b, 0, none⟩) bs.length [(b, .cells (u8s bs).toArray e (0, 0))] :=
 ⟨by rw [u8s_len, Nat.mul_one], .inr ⟨b, 0, u8s bs, e, (0, 0), rfl, rfl, by rw [u8s_len]; omega, by rw [List.drop_zero, Nat.mul_one, ← u8s_len bs, List.take_length]⟩⟩
theorem BClone_spec (bs : List Int) (hl : bs.length ≤ 1000000) (a : Option Addr) (cap : Nat) (ro : HL) (hro : RoSl 1 (u8s bs) a bs.length ro) :
  Ctr Tryz.prog 142 [.slice a bs.length cap] [] ro (fun v L' => ∃ a' cap' H, v = .slice a' bs.length cap' ∧ L' = [H] ∧ Own 1 5 (u8s bs) a' bs.length cap' H) := by
 refine Ctr.enter (n := 8) [.tmp 2] [(0, _)] Tryz.func142 rfl rfl rfl (lb rfl) Tryz.call142 ⟨rfl, trivial⟩ ?_
 intro cx fin fin0
 refine aG ?_
 refine aV (OpVal.eqNilSl tab_ok rfl rfl rfl) ?_
 cases a with
 | none =>
  have h0 : bs = [] := by
   rcases hro.2 with ⟨h, -⟩ | ⟨_, _, _, _, _, h, _⟩
   · exact List.eq_nil_of_length_eq_zero h
   · cases h
  subst h0
  refine aT ?_ (hb := by rfl)
  refine W.nilChunk ?_
  refine W.ret (fin _ _ (FinOk.first 1 (.tmp rfl .nil) rfl ?_))
  exact ⟨_, _, _, rfl, rfl, Own.nil 1 _⟩
 | some ad =>
  refine aF ?_ (hb := by rfl)
  refine aSl (ps := []) ?_
  intro b5
  refine aG ?_
  have how : Own 1 5 (u8s []) (some ⟨b5, 0, none⟩) ([] : List Int).length 0 [(b5, .cells #[] 5 (0, 0))] := ⟨rfl, .inr ⟨b5, [], rfl, rfl, Nat.le_refl _, rfl, rfl⟩⟩
  refine aPr (appU8 tab_ok rfl rfl rfl how (by intro p hp; simp [hp]) rfl hro (fun q hq => .inr hq) (by simp; omega) (by simp; omega)) ?_
  rintro _ _ ⟨a2, c2, H2, rfl, rfl, ho⟩
  refine aG ?_
  rw [List.nil_append] at ho
  repeat refine gx ?_
  refine W.ret (fin _ _ (FinOk.first 1 (.tmp rfl .nil) rfl ?_))
  exact ⟨_, _, _, rfl, rfl, ho⟩
theorem BEqual_spec (x y : List Int) (hx : u8ok x) (hy : u8ok y) (a : Option Addr) (cap : Nat) (r1 : HL) (h1 : RoSl 1 (u8s x) a x.length r1) (b : Option Addr) (cb : Nat) (r2 : HL) (h2 : RoSl 1 (u8s y) b y.length r2) :
  Ctr Tryz.prog 257 [.slice a x.length cap, .slice b y.length cb] [] (r1 ++ r2) (fun v L' => v = .bool (decide (x = y)) ∧ L' = []) := by
 refine Ctr.enter (n := 10) [.tmp 4] [(0, _), (1, _)] Tryz.func257 rfl rfl rfl (lb rfl) Tryz.call257 ⟨rfl, rfl, trivial⟩ ?_
 intro cx fin fin0
 refine aG ?_
 refine aV (OpVal.bytesStr tab_ok rfl rfl rfl rfl h1 (fun q hq => .inr (by simp [hq]))) ?_
 refine aV (OpVal.bytesStr tab_ok rfl rfl rfl rfl h2 (fun q hq => .inr (by simp [hq]))) ?_
 refine aV (OpVal.eqStr rfl rfl) ?_
 rw [bstr_eq hx hy]
 refine W.ret (fin _ _ (FinOk.first 0 (.tmp rfl .nil) rfl ?_))
 exact ⟨rfl, rfl⟩
end Go.Proofs.YtfpghdcjdnifcaaGreat
namespace Go.Proofs.YtfpghdcjdnifcaaGreat
open Go Go.Sl Go.IntWalk
set_option maxHeartbeats 8000000
set_option maxRecDepth 20000
set_option linter.unusedVariables false
def rnamed (q : Rq) : Rq :=
 if q.op = 1 ∨ q.op = 4 ∨ q.op = 5 ∨ q.op = 7 then ⟨q.op, q.page, 0, 0, []⟩ else if q.op = 2 then ⟨q.op, q.page, q.off, q.len, []⟩ else if q.op = 3 then ⟨q.op, q.page, q.off, 0, q.data⟩ else ⟨q.op, 0, 0, 0, []⟩
def rcheck (q : Rq) (pages : Int) : Int :=
 if ¬ (1 ≤ q.op ∧ q.op ≤ 8) ∨ q ≠ rnamed q then 2 else if q.op ≠ 6 ∧ q.op ≠ 8 ∧ (q.page < 0 ∨ pages ≤ q.page) then 4
 else if q.off < 0 ∨ 32 < q.off ∨ q.len < 0 ∨ 32 - q.off < q.len ∨ 32 - q.off < (q.data.length : Int) then 4 else 0
def rnames : List ByteArray := [⟨#[]⟩, ⟨#[102, 101, 116, 99, 104]⟩, ⟨#[114, 101, 97, 100]⟩, ⟨#[119, 114, 105, 116, 101]⟩, ⟨#[117, 110, 112, 105, 110]⟩, ⟨#[102, 108, 117, 115, 104]⟩, ⟨#[102, 108, 117, 115, 104, 97, 108, 108]⟩, ⟨#[100, 105, 115, 99, 97, 114, 100]⟩, ⟨#[115, 116, 97, 116, 115]⟩]
theorem RName_no (k : Int) (h : k < 0 ∨ 9 ≤ k) : Ctr Tryz.prog 223 [.int .i64 k] [] [] (fun v L' => v = .string ⟨#[]⟩ ∧ L' = []) := by
 refine Ctr.enter (n := 12) [.tmp 2] [(0, _)] Tryz.func223 rfl rfl rfl (lb rfl) Tryz.call223 ⟨rfl, trivial⟩ ?_
 intro cx fin fin0
 refine aG ?_
 rcases Classical.em (k < 0) with h1 | h1
 ·
  repeat refine gh h1 ?_
  refine W.ret (fin _ _ (FinOk.first 0 (.tmp rfl .nil) rfl ?_))
  exact ⟨rfl, rfl⟩
 ·
  have h2 : k ≥ 9 := by omega
  repeat refine gh (gc2 h1 h2) ?_
  refine W.ret (fin _ _ (FinOk.first 0 (.tmp rfl .nil) rfl ?_))
  exact ⟨rfl, rfl⟩
theorem Names_spec : Ctr Tryz.prog 256 [] [] [] (fun v L' => v = .agg (rnames.map Value.string).toArray ∧ L' = []) := by
 refine Ctr.enter (n := 2) [.cell 0 376] [] Tryz.func256 rfl rfl rfl (lb rfl) Tryz.call256 trivial ?_
 intro cx fin fin0
 refine aG ?_
 repeat (first | refine gx ?_ | refine gN fun _ => ?_ | refine gB fun _ => ?_ | fail)
 refine aBu (ps := [_, _, _, _, _, _, _, _, _]) ?_
 repeat refine gx ?_
 refine W.ret (fin _ _ (FinOk.first 0 (aRc .nil) rfl ?_))
 exact ⟨rfl, rfl⟩
theorem RName_spec (j : Nat) (h : j < 9) : Ctr Tryz.prog 223 [.int .i64 (j : Int)] [] [] (fun v L' => v = .string (rnames.getD j ⟨#[]⟩) ∧ L' = []) := by
 have h1 : ¬ ((j : Int) < 0) := by omega
 have h2 : ¬ ((j : Int) ≥ 9) := by omega
 have hk : j = 0 ∨ j = 1 ∨ j = 2 ∨ j = 3 ∨ j = 4 ∨ j = 5 ∨ j = 6 ∨ j = 7 ∨ j = 8 := by omega
 refine Ctr.enter (n := 12) [.tmp 2] [(0, _)] Tryz.func223 rfl rfl rfl (lb rfl) Tryz.call223 ⟨rfl, trivial⟩ ?_
 intro cx fin fin0
 refine aG ?_
 repeat refine gh (gc2 h1 h2) ?_
 refine aC (o := Names_spec) (h := ?_)
 rintro _ _ ⟨rfl, rfl⟩
 refine aG ?_
 rcases hk with rfl | rfl | rfl | rfl | rfl | rfl | rfl | rfl | rfl
 all_goals
  refine aV (OpVal.ix1 tab_ok rfl rfl rfl rfl rfl (by decide) rfl) ?_
  refine W.ret (fin _ _ (FinOk.first 0 (.tmp rfl .nil) rfl ?_))
  exact ⟨rfl, rfl⟩
theorem Same_spec (a b : Rq) (hua : u8ok a.data) (hub : u8ok b.data) (aa : Option Addr) (ca : Nat) (ra : HL) (hra : RoSl 1 (u8s a.data) aa a.data.length ra) (ab : Option Addr) (cb : Nat) (rb : HL) (hrb : RoSl 1 (u8s b.data) ab b.data.length rb) :
  Ctr Tryz.prog 224 [a.v aa ca, b.v ab cb] [] (ra ++ rb) (fun v L' => v = .bool (decide (a = b)) ∧ L' = []) := by
 have hE := BEqual_spec a.data b.data hua hub aa ca ra hra ab cb rb hrb
 obtain ⟨o1, p1, f1, l1, d1⟩ := a
 obtain ⟨o2, p2, f2, l2, d2⟩ := b
 simp only at *
 refine Ctr.enter (n := 38) [.tmp 4] [(0, _), (1, _)] Tryz.func224 rfl rfl rfl (lb rfl) Tryz.call224 ⟨rfl, rfl, trivial⟩ ?_
 intro cx fin fin0
 refine aG ?_
 rcases Classical.em (o1 = o2) with h1 | h1
 ·
  rcases Classical.em (p1 = p2) with h2 | h2
  ·
   rcases Classical.em (f1 = f2) with h3 | h3
   ·
    rcases Classical.em (l1 = l2) with h4 | h4
    ·
     subst h1 h2 h3 h4
     repeat (first | refine gx ?_ | refine gN fun _ => ?_ | refine gB fun _ => ?_ | fail)
     refine aC (o := hE) (h := ?_) (hro := RoIn.same)
     rintro _ _ ⟨rfl, rfl⟩
     refine aG ?_
     repeat refine gx ?_
     refine W.ret (fin _ _ (FinOk.first 0 (.tmp rfl .nil) rfl ?_))
     exact ⟨by simp [pack], rfl⟩
    ·
     repeat (first | refine gh (gc4 h1 h2 h3 h4) ?_ | refine gN fun _ => ?_ | refine gB fun _ => ?_ | fail)
     refine W.ret (fin _ _ (FinOk.first 0 (.tmp rfl .nil) rfl ?_))
     exact ⟨by simp [pack, h4], rfl⟩
   ·
    repeat (first | refine gh (gc3 h1 h2 h3) ?_ | refine gN fun _ => ?_ | refine gB fun _ => ?_ | fail)
    refine W.ret (fin _ _ (FinOk.first 0 (.tmp rfl .nil) rfl ?_))
    exact ⟨by simp [pack, h3], rfl⟩
  ·
   repeat (first | refine gh (gc2 h1 h2) ?_ | refine gN fun _ => ?_ | refine gB fun _ => ?_ | fail)
   refine W.ret (fin _ _ (FinOk.first 0 (.tmp rfl .nil) rfl ?_))
   exact ⟨by simp [pack, h2], rfl⟩
 ·
  repeat (first | refine gh h1 ?_ | refine gN fun _ => ?_ | refine gB fun _ => ?_ | fail)
  refine W.ret (fin _ _ (FinOk.first 0 (.tmp rfl .nil) rfl ?_))
  exact ⟨by simp [pack, h1], rfl⟩
theorem RClone_spec (q : Rq) (hl : q.data.length ≤ 1000000) (a : Option Addr) (c : Nat) (ro : HL) (hro : RoSl 1 (u8s q.data) a q.data.length ro) :
  Ctr Tryz.prog 168 [q.v a c] [] ro (fun v L' => ∃ a' c' H, v = q.v a' c' ∧ L' = [H] ∧ RoSl 1 (u8s q.data) a' q.data.length H) := by
 have hC := BClone_spec q.data hl a c ro hro
 obtain ⟨o1, p1, f1, l1, d1⟩ := q
 simp only at *
 refine Ctr.enter (n := 8) [.cell 2 63] [(0, _)] Tryz.func168 rfl rfl rfl (lb rfl) Tryz.call168 ⟨rfl, trivial⟩ ?_
 intro cx fin fin0
 refine aG ?_
 repeat (first | refine gx ?_ | refine gN fun _ => ?_ | refine gB fun _ => ?_ | fail)
 refine aC (o := hC) (h := ?_) (hro := RoIn.same)
 rintro _ _ ⟨a2, c2, H, rfl, rfl, ho⟩
 refine aG ?_
 repeat refine gx ?_
 refine W.ret (fin _ _ (FinOk.first 1 (aRc .nil) rfl ?_))
 exact ⟨a2, c2, _, rfl, rfl, Own.roSl ho⟩
theorem Nm1_spec (q : Rq) (a : Option Addr) (c : Nat) : Ctr Tryz.prog 258 [q.v a c] [] [] (fun v L' => v = (⟨q.op, q.page, 0, 0, []⟩ : Rq).v none 0 ∧ L' = []) := by
 obtain ⟨o1, p1, f1, l1, d1⟩ := q
 refine Ctr.enter (n := 8) [.cell 2 63] [(0, _)] Tryz.func258 rfl rfl rfl (lb rfl) Tryz.call258 ⟨rfl, trivial⟩ ?_
 intro cx fin fin0
 refine aG ?_
 repeat (first | refine gx ?_ | refine gN fun _ => ?_ | refine gB fun _ => ?_ | fail)
 refine aBu (ps := [_, _]) ?_
 repeat refine gx ?_
 refine W.ret (fin _ _ (FinOk.first 0 (aRc .nil) rfl ?_))
 exact ⟨rfl, rfl⟩
theorem Nm2_spec (q : Rq) (a : Option Addr) (c : Nat) : Ctr Tryz.prog 259 [q.v a c] [] [] (fun v L' => v = (⟨q.op, 0, 0, 0, []⟩ : Rq).v none 0 ∧ L' = []) := by
 obtain ⟨o1, p1, f1, l1, d1⟩ := q
 refine Ctr.enter (n := 6) [.cell 2 63] [(0, _)] Tryz.func259 rfl rfl rfl (lb rfl) Tryz.call259 ⟨rfl, trivial⟩ ?_
 intro cx fin fin0
 refine aG ?_
 repeat (first | refine gx ?_ | refine gN fun _ => ?_ | refine gB fun _ => ?_ | fail)
 refine aBu (ps := [_]) ?_
 repeat refine gx ?_
 refine W.ret (fin _ _ (FinOk.first 0 (aRc .nil) rfl ?_))
 exact ⟨rfl, rfl⟩
theorem Nm3_spec (q : Rq) (a : Option Addr) (c : Nat) : Ctr Tryz.prog 260 [q.v a c] [] [] (fun v L' => v = (⟨q.op, q.page, q.off, q.len, []⟩ : Rq).v none 0 ∧ L' = []) := by
 obtain ⟨o1, p1, f1, l1, d1⟩ := q
 refine Ctr.enter (n := 12) [.cell 2 63] [(0, _)] Tryz.func260 rfl rfl rfl (lb rfl) Tryz.call260 ⟨rfl, trivial⟩ ?_
 intro cx fin fin0
 refine aG ?_
 repeat (first | refine gx ?_ | refine gN fun _ => ?_ | refine gB fun _ => ?_ | fail)
 refine aBu (ps := [_, _, _, _]) ?_
 repeat refine gx ?_
 refine W.ret (fin _ _ (FinOk.first 0 (aRc .nil) rfl ?_))
 exact ⟨rfl, rfl⟩
theorem Nm4_spec (q : Rq) (a : Option Addr) (c : Nat) : Ctr Tryz.prog 261 [q.v a c] [] [] (fun v L' => v = (⟨q.op, q.page, q.off, 0, q.data⟩ : Rq).v a c ∧ L' = []) := by
 obtain ⟨o1, p1, f1, l1, d1⟩ := q
 refine Ctr.enter (n := 12) [.cell 2 63] [(0, _)] Tryz.func261 rfl rfl rfl (lb rfl) Tryz.call261 ⟨rfl, trivial⟩ ?_
 intro cx fin fin0
 refine aG ?_
 repeat (first | refine gx ?_ | refine gN fun _ => ?_ | refine gB fun _ => ?_ | fail)
 refine aBu (ps := [_, _, _, _]) ?_
 repeat refine gx ?_
 refine W.ret (fin _ _ (FinOk.first 0 (aRc .nil) rfl ?_))
 exact ⟨rfl, rfl⟩
def fns (f : Nat) : Value := .func (.func f) #[] #[]
theorem Nmd_spec : Ctr Tryz.prog 225 [] [] [] (fun v L' => v = .agg #[fns 259, fns 258, fns 260, fns 261, fns 258, fns 258, fns 259, fns 258, fns 259] ∧ L' = []) := by
 refine Ctr.enter (n := 15) [.cell 0 344] [] Tryz.func225 rfl rfl rfl (lb rfl) Tryz.call225 trivial ?_
 intro cx fin fin0
 refine aG ?_
 repeat (first | refine gx ?_ | refine gN fun _ => ?_ | refine gB fun _ => ?_ | fail)
 refine aBu (ps := [_, _, _, _, _, _, _, _, _]) ?_
 repeat refine gx ?_
 refine W.ret (fin _ _ (FinOk.first 0 (aRc .nil) rfl ?_))
 exact ⟨rfl, rfl⟩
def fnl : List Value := [fns 259, fns 258, fns 260, fns 261, fns 258, fns 258, fns 259, fns 258, fns 259]
theorem Check_go (j f : Nat) (hj1 : 1 ≤ j) (hj8 : j ≤ 8) (hf : fnl[j]? = some (fns f)) (hfi : Tryz.prog.inits.idxOf? f = none) (hnn : ((rnames.getD j ⟨#[]⟩).toList == (⟨#[]⟩ : ByteArray).toList) = false) (q q' : Rq) (hq : q.op = (j : Int)) (hq' : rnamed q = q') (hl : q.data.length ≤ 1000000) (pages : Int) (a : Option Addr) (c : Nat) (a' : Option Addr) (c' : Nat) (ro : HL) (hoi : i64s q.off)
  (hC : Ctr Tryz.prog f [q.v a c] [] [] (fun v L' => v = q'.v a' c' ∧ L' = [])) (hS : Ctr Tryz.prog 224 [q.v a c, q'.v a' c'] [] ro (fun v L' => v = .bool (decide (q = q')) ∧ L' = [])) :
  Ctr Tryz.prog 166 [q.v a c, .int .i64 pages] [] ro (fun v L' => v = .int .i64 (rcheck q pages) ∧ L' = []) := by
 have hN := RName_spec j (by omega)
 have hM := Nmd_spec
 have hrc : rcheck q pages = rcheck q pages := rfl
 conv at hrc => rhs; unfold rcheck
 rw [hq'] at hrc
 have hop : ¬ ¬ (1 ≤ q.op ∧ q.op ≤ 8) := by omega
 generalize rcheck q pages = out at *
 obtain ⟨o1, p1, f1, l1, d1⟩ := q
 simp only at *
 subst hq
 rw [show (⟨(j : Int), p1, f1, l1, d1⟩ : Rq).v a c = .agg #[.int .i64 (j : Int), .int .i64 p1, .int .i64 f1, .int .i64 l1, .slice a d1.length c] from rfl]
 refine Ctr.enter (n := 69) [.tmp 4] [(0, _), (1, _)] Tryz.func166 rfl rfl rfl (lb rfl) Tryz.call166 ⟨rfl, rfl, trivial⟩ ?_
 intro cx fin fin0
 refine aG ?_
 repeat (first | refine gx ?_ | refine gN fun _ => ?_ | refine gB fun _ => ?_ | fail)
 refine W.draw follows (by decide +kernel) (zG ?_)
 refine gzx ?_
 refine zC (o := hN) (h := ?_)
 refine zV (OpVal.eqStr rfl rfl) ?_
 refine gzh hnn ?_
 refine zC (o := hM) (h := ?_)
 refine gzh hnn ?_
 refine zV (OpVal.ix1 (l := fnl) tab_ok rfl rfl rfl rfl rfl (show j < 9 by omega) hf) ?_
 refine gzh hnn ?_
 refine zC (o := hC) (h := ?_) (hro := RoIn.nil)
 refine gzh hnn ?_
 refine zC (o := hS) (h := ?_) (hro := RoIn.same)
 refine gzh hnn ?_
 refine WZ.nil (aG ?_)
 rcases Classical.em ((⟨(j : Int), p1, f1, l1, d1⟩ : Rq) = q') with hs | hs
 case' inr =>
  rw [if_pos (.inr hs)] at hrc
  subst hrc
  repeat refine gh hs ?_
  refine W.ret (fin _ _ (FinOk.first 0 (.tmp rfl .nil) rfl ?_))
  exact ⟨rfl, rfl⟩
 rw [if_neg (by simp [hs]; omega)] at hrc
 repeat refine gh hs ?_
 rcases (show (¬ (j : Int) = 6 ∧ ¬ (j : Int) = 8 ∧ p1 < 0) ∨ (¬ (j : Int) = 6 ∧ ¬ (j : Int) = 8 ∧ ¬ p1 < 0 ∧ p1 ≥ pages) ∨ ((j : Int) = 6) ∨ (¬ (j : Int) = 6 ∧ (j : Int) = 8) ∨ (¬ (j : Int) = 6 ∧ ¬ (j : Int) = 8 ∧ ¬ p1 < 0 ∧ ¬ p1 ≥ pages) by omega) with ⟨h1, h2, h3⟩ | ⟨h1, h2, h3, h4⟩ | h1 | ⟨h1, h2⟩ | ⟨h1, h2, h3, h4⟩
 case' inl.inl =>
  rw [if_pos ⟨h1, h2, .inl h3⟩] at hrc
  subst hrc
  repeat refine gh (gc3 h1 h2 h3) ?_
  refine W.ret (fin _ _ (FinOk.first 0 (.tmp rfl .nil) rfl ?_))
  exact ⟨rfl, rfl⟩
 case' inl.inr.inl =>
  rw [if_pos ⟨h1, h2, .inr h4⟩] at hrc
  subst hrc
  repeat refine gh (gc4 h1 h2 h3 h4) ?_
  refine W.ret (fin _ _ (FinOk.first 0 (.tmp rfl .nil) rfl ?_))
  exact ⟨rfl, rfl⟩
 case' inl.inr.inr.inl =>
  repeat refine gh h1 ?_
 case' inl.inr.inr.inr.inl =>
  repeat refine gh (gc2 h1 h2) ?_
 case' inl.inr.inr.inr.inr =>
  repeat refine gh (gc4 h1 h2 h3 h4) ?_
 all_goals
  rw [if_neg (by omega)] at hrc
  unfold i64s at hoi
  rcases (show f1 < 0 ∨ (¬ f1 < 0 ∧ f1 > 32) ∨ (¬ f1 < 0 ∧ ¬ f1 > 32 ∧ l1 < 0) ∨ (¬ f1 < 0 ∧ ¬ f1 > 32 ∧ ¬ l1 < 0 ∧ l1 > 32 - f1) ∨ (¬ f1 < 0 ∧ ¬ f1 > 32 ∧ ¬ l1 < 0 ∧ ¬ l1 > 32 - f1 ∧ (d1.length : Int) > 32 - f1) ∨ (¬ f1 < 0 ∧ ¬ f1 > 32 ∧ ¬ l1 < 0 ∧ ¬ l1 > 32 - f1 ∧ ¬ (d1.length : Int) > 32 - f1) by omega) with k1 | ⟨k1, k2⟩ | ⟨k1, k2, k3⟩ | ⟨k1, k2, k3, k4⟩ | ⟨k1, k2, k3, k4, k5⟩ | ⟨k1, k2, k3, k4, k5⟩
  ·
   rw [if_pos (by omega)] at hrc
   subst hrc
   repeat refine gh k1 ?_
   refine W.ret (fin _ _ (FinOk.first 0 (.tmp rfl .nil) rfl ?_))
   exact ⟨rfl, rfl⟩
  ·
   rw [if_pos (by omega)] at hrc
   subst hrc
   repeat refine gh (gc2 k1 k2) ?_
   refine W.ret (fin _ _ (FinOk.first 0 (.tmp rfl .nil) rfl ?_))
   exact ⟨rfl, rfl⟩
  ·
   rw [if_pos (by omega)] at hrc
   subst hrc
   repeat refine gh (gc3 k1 k2 k3) ?_
   refine W.ret (fin _ _ (FinOk.first 0 (.tmp rfl .nil) rfl ?_))
   exact ⟨rfl, rfl⟩
  ·
   rw [if_pos (by omega)] at hrc
   subst hrc
   repeat refine gh (gc4 k1 k2 k3 k4) ?_
   refine W.ret (fin _ _ (FinOk.first 0 (.tmp rfl .nil) rfl ?_))
   exact ⟨rfl, rfl⟩
  ·
   rw [if_pos (by omega)] at hrc
   subst hrc
   repeat refine gh (gc5 k1 k2 k3 k4 k5) ?_
   refine W.ret (fin _ _ (FinOk.first 0 (.tmp rfl .nil) rfl ?_))
   exact ⟨rfl, rfl⟩
  ·
   rw [if_neg (by omega)] at hrc
   subst hrc
   repeat refine gh (gc5 k1 k2 k3 k4 k5) ?_
   refine W.ret (fin _ _ (FinOk.first 0 (.tmp rfl .nil) rfl ?_))
   exact ⟨rfl, rfl⟩
theorem Check_no (q : Rq) (pages : Int) (h : q.op < 1 ∨ 8 < q.op) (hi : i64s q.op) (a : Option Addr) (c : Nat) : Ctr Tryz.prog 166 [q.v a c, .int .i64 pages] [] [] (fun v L' => v = .int .i64 (rcheck q pages) ∧ L' = []) := by
 have hrc : rcheck q pages = 2 := by unfold rcheck; rw [if_pos (.inl (by omega))]
 rw [hrc]
 have hN : Ctr Tryz.prog 223 [.int .i64 q.op] [] [] (fun v L' => v = .string ⟨#[]⟩ ∧ L' = []) := by
  rcases Classical.em (q.op = 0) with h0 | h0
  · rw [h0]; exact RName_spec 0 (by decide)
  · exact RName_no q.op (by omega)
 have hnn : ((⟨#[]⟩ : ByteArray).toList == (⟨#[]⟩ : ByteArray).toList) = true := by decide +kernel
 obtain ⟨o1, p1, f1, l1, d1⟩ := q
 simp only at *
 refine Ctr.enter (n := 69) [.tmp 4] [(0, _), (1, _)] Tryz.func166 rfl rfl rfl (lb rfl) Tryz.call166 ⟨rfl, rfl, trivial⟩ ?_
 intro cx fin fin0
 refine aG ?_
 repeat (first | refine gx ?_ | refine gN fun _ => ?_ | refine gB fun _ => ?_ | fail)
 refine W.draw follows (by decide +kernel) (zG ?_)
 refine gzx ?_
 refine zC (o := hN) (h := ?_)
 refine zV (OpVal.eqStr rfl rfl) ?_
 refine gzh hnn ?_
 refine WZ.nil (aG ?_)
 repeat refine gh hnn ?_
 refine W.ret (fin _ _ (FinOk.first 0 (.tmp rfl .nil) rfl ?_))
 exact ⟨rfl, rfl⟩
theorem Check_spec (q : Rq) (pages : Int) (hu : u8ok q.data) (hl : q.data.length ≤ 1000000) (a : Option Addr) (c : Nat) (ro : HL) (hro : RoSl 1 (u8s q.data) a q.data.length ro) (hoi : i64s q.off) (hi : i64s q.op) :
  Ctr Tryz.prog 166 [q.v a c, .int .i64 pages] [] ro (fun v L' => v = .int .i64 (rcheck q pages) ∧ L' = []) := by
 have e0 : RoSl 1 (u8s []) none ([] : List Int).length [] := ⟨rfl, .inl ⟨rfl, rfl⟩⟩
 have u0 : u8ok [] := fun b hb => by cases hb
 have nil : ∀ {q' : Rq} {a' c'}, Ctr Tryz.prog 224 [q.v a c, q'.v a' c'] [] (ro ++ []) (fun v L' => v = .bool (decide (q = q')) ∧ L' = []) → Ctr Tryz.prog 224 [q.v a c, q'.v a' c'] [] ro (fun v L' => v = .bool (decide (q = q')) ∧ L' = []) := fun h => h.ro (by simp)
 have dbl : ∀ {q' : Rq} {a' c'}, Ctr Tryz.prog 224 [q.v a c, q'.v a' c'] [] (ro ++ ro) (fun v L' => v = .bool (decide (q = q')) ∧ L' = []) → Ctr Tryz.prog 224 [q.v a c, q'.v a' c'] [] ro (fun v L' => v = .bool (decide (q = q')) ∧ L' = []) := fun h => h.ro (by simp)
 rcases Classical.em (1 ≤ q.op ∧ q.op ≤ 8) with hop | hop
 case inr => exact (Check_no q pages (by omega) hi a c).ro (fun _ h => by cases h)
 have hS1 := nil (Same_spec q (⟨q.op, q.page, 0, 0, []⟩ : Rq) hu u0 a c ro hro none 0 [] e0)
 have hS2 := nil (Same_spec q (⟨q.op, 0, 0, 0, []⟩ : Rq) hu u0 a c ro hro none 0 [] e0)
 have hS3 := nil (Same_spec q (⟨q.op, q.page, q.off, q.len, []⟩ : Rq) hu u0 a c ro hro none 0 [] e0)
 have hS4 := dbl (Same_spec q (⟨q.op, q.page, q.off, 0, q.data⟩ : Rq) hu hu a c ro hro a c ro hro)
 have hk : q.op = ((1 : Nat) : Int) ∨ q.op = ((2 : Nat) : Int) ∨ q.op = ((3 : Nat) : Int) ∨ q.op = ((4 : Nat) : Int) ∨ q.op = ((5 : Nat) : Int) ∨ q.op = ((6 : Nat) : Int) ∨ q.op = ((7 : Nat) : Int) ∨ q.op = ((8 : Nat) : Int) := by omega
 rcases hk with h | h | h | h | h | h | h | h
 · exact Check_go 1 _ (by decide) (by decide) rfl (by kernel_rfl) (by decide +kernel) q _ h (by unfold rnamed; rw [h]; rfl) hl pages a c _ _ ro hoi (Nm1_spec q a c) hS1
 · exact Check_go 2 _ (by decide) (by decide) rfl (by kernel_rfl) (by decide +kernel) q _ h (by unfold rnamed; rw [h]; rfl) hl pages a c _ _ ro hoi (Nm3_spec q a c) hS3
 · exact Check_go 3 _ (by decide) (by decide) rfl (by kernel_rfl) (by decide +kernel) q _ h (by unfold rnamed; rw [h]; rfl) hl pages a c _ _ ro hoi (Nm4_spec q a c) hS4
 · exact Check_go 4 _ (by decide) (by decide) rfl (by kernel_rfl) (by decide +kernel) q _ h (by unfold rnamed; rw [h]; rfl) hl pages a c _ _ ro hoi (Nm1_spec q a c) hS1
 · exact Check_go 5 _ (by decide) (by decide) rfl (by kernel_rfl) (by decide +kernel) q _ h (by unfold rnamed; rw [h]; rfl) hl pages a c _ _ ro hoi (Nm1_spec q a c) hS1
 · exact Check_go 6 _ (by decide) (by decide) rfl (by kernel_rfl) (by decide +kernel) q _ h (by unfold rnamed; rw [h]; rfl) hl pages a c _ _ ro hoi (Nm2_spec q a c) hS2
 · exact Check_go 7 _ (by decide) (by decide) rfl (by kernel_rfl) (by decide +kernel) q _ h (by unfold rnamed; rw [h]; rfl) hl pages a c _ _ ro hoi (Nm1_spec q a c) hS1
 · exact Check_go 8 _ (by decide) (by decide) rfl (by kernel_rfl) (by decide +kernel) q _ h (by unfold rnamed; rw [h]; rfl) hl pages a c _ _ ro hoi (Nm2_spec q a c) hS2
end Go.Proofs.YtfpghdcjdnifcaaGreat
namespace Go.Proofs.YtfpghdcjdnifcaaGreat
open Go Go.Sl Go.IntWalk
set_option maxHeartbeats 2000000
set_option maxRecDepth 20000
set_option linter.unusedVariables false
theorem Get_spec (c : C6) (k : Int) : Ctr Tryz.prog 287 [c.v, .int .i64 k] [] [] (fun v L' => v = .tuple #[.int .u64 (c.get k).1, .bool (c.get k).2] ∧ L' = []) := by
 refine Ctr.enter (n := 14) [.tmp 4, .tmp 5] [(0, _), (1, _)] Tryz.func287 rfl rfl rfl (lb rfl) Tryz.call287 ⟨rfl, rfl, trivial⟩ ?_
 intro cx fin fin0
 refine aG ?_
 repeat (first | refine gw ?_ | refine gN fun _ => ?_ | refine gB fun _ => ?_ | fail)
 by_cases hk : 0 ≤ k ∧ k < 6
 ·
  rcases kinds hk with rfl | rfl | rfl | rfl | rfl | rfl
  all_goals
   refine aC (o := of_yes _ _ (by omega)) (h := ?_)
   rintro _ _ ⟨rfl, rfl⟩
   refine aG ?_
   refine aV (OpVal.eqNil tab_ok rfl rfl rfl) ?_
   refine aF ?_
   repeat refine gw ?_
   refine W.ret (fin _ _ (FinOk.mk' ([]) (.tmp rfl (.tmp rfl .nil)) (by repeat (first | exact Sel.nil | (apply Sel.cons; (repeat (first | exact Pick.here | apply Pick.there))))) rfl ?_))
   exact ⟨rfl, rfl⟩
 ·
  refine aC (o := of_no _ _ hk) (h := ?_)
  rintro _ _ ⟨rfl, rfl⟩
  refine aG ?_
  refine aV (OpVal.eqNil tab_ok rfl rfl rfl) ?_
  refine aT ?_
  refine W.ret (fin _ _ (FinOk.mk' ([]) (.tmp rfl (.tmp rfl .nil)) (by repeat (first | exact Sel.nil | (apply Sel.cons; (repeat (first | exact Pick.here | apply Pick.there))))) rfl ?_))
  refine ⟨?_, rfl⟩
  unfold C6.get
  repeat rw [if_neg (by omega)]
  rfl
def C6.plus (a c : C6) (j : Nat) : C6 := (List.range j).foldl (fun a (i : Nat) => a.add (i : Int) (c.get (i : Int)).1) a
def sumTo (acc : C6) (xs : List C6) : C6 := xs.foldl (fun a c => a.plus c 6) acc
def sumC (xs : List C6) : C6 := sumTo ⟨0, 0, 0, 0, 0, 0⟩ xs
theorem C6.plus_succ (a c : C6) (j : Nat) : a.plus c (j + 1) = (a.plus c j).add (j : Int) (c.get (j : Int)).1 := by
 unfold C6.plus
 rw [List.range_succ, List.foldl_append]
 rfl
theorem C6.plus_ok {a c : C6} (ha : a.Ok) (hc : c.Ok) (j : Nat) : (a.plus c j).Ok := by
 induction j with
 | zero => exact ha
 | succ j ih => rw [C6.plus_succ]; exact C6.add_ok ih _ (C6.get_u64 hc _)
theorem C6.l_len (c : C6) : c.l.length = 6 := rfl
theorem sumC_take (xs : List C6) (i : Nat) (hi : i < xs.length) : sumC (xs.take (i + 1)) = (sumC (xs.take i)).plus xs[i] 6 := by
 unfold sumC sumTo
 rw [List.take_add_one, List.foldl_append]
 simp [hi]
theorem zero_ok : (⟨0, 0, 0, 0, 0, 0⟩ : C6).Ok := ⟨⟨by decide, by decide⟩, ⟨by decide, by decide⟩, ⟨by decide, by decide⟩, ⟨by decide, by decide⟩, ⟨by decide, by decide⟩, ⟨by decide, by decide⟩⟩
theorem sumC_ok {xs : List C6} (h : ∀ c ∈ xs, c.Ok) : (sumC xs).Ok := by
 unfold sumC
 have : ∀ (xs : List C6) (acc : C6), acc.Ok → (∀ c ∈ xs, c.Ok) → (sumTo acc xs).Ok := by
  intro xs
  induction xs with
  | nil => intro acc ha _; exact ha
  | cons x xs ih => intro acc ha h; exact ih _ (C6.plus_ok ha (h x (by simp)) 6) (fun c hc => h c (by simp [hc]))
 exact this xs _ zero_ok h
theorem Sum_spec (xs : List C6) (hx : ∀ c ∈ xs, c.Ok) (hlen : xs.length ≤ 1000) (a : Option Addr) (cap : Nat) (ro : HL) (hro : RoSl 6 (xs.flatMap C6.l) a xs.length ro) :
  Ctr Tryz.prog 262 [.slice a xs.length cap] [] ro (fun v L' => v = (sumC xs).v ∧ L' = []) := by
 refine Ctr.enter (n := 31) [.cell 2 57] [(0, _)] Tryz.func262 rfl rfl rfl (lb rfl) Tryz.call262 ⟨rfl, trivial⟩ ?_
 intro cx fin fin0
 refine aG ?_
 refine W.new tab_ok rfl rfl (by decide) ?_
 intro b2
 refine aG ?_
 refine W.new tab_ok rfl rfl (by decide) ?_
 intro b3
 refine aG ?_
 refine aLp (fun m ρ1 L1 => ∃ (i : Nat) (acc : C6), i ≤ xs.length ∧ acc = sumC (xs.take i) ∧ m = xs.length - i ∧ ρ1 = [(9, .slice a xs.length cap), (10, .int .i64 (xs.length : Int)), (11, .int .i64 (i : Int)), (2, .pointer (some ⟨b2, 0, none⟩)), (3, .pointer (some ⟨b3, 0, none⟩))] ∧ L1 = [[(b3, .cells acc.l.toArray 57 (0, 0))], [(b2, .cells (⟨0, 0, 0, 0, 0, 0⟩ : C6).l.toArray 57 (0, 0))]]) (o := ⟨0, ⟨0, 0, 0, 0, 0, 0⟩, Nat.zero_le _, rfl, rfl, rfl, rfl⟩) (h := ?_)
 rintro m ρ1 L1 ⟨i, acc, hi, hacce, rfl, rfl, rfl⟩
 refine aG ?_
 by_cases hlt : i < xs.length
 ·
  refine aT ?_ (hb := by simp; omega)
  rcases hro.2 with ⟨h0, _⟩ | ⟨b, off, l, e, fr, rfl, rfl, hl, hcs⟩
  · omega
  have hseg := RoSl.elem C6.l_len hl hcs hlt
  have hok : xs[i].Ok := hx _ (List.getElem_mem hlt)
  have hnx : sumC (xs.take (i + 1)) = acc.plus xs[i] 6 := by rw [sumC_take xs i hlt, ← hacce]
  generalize xs[i] = x at hseg hok hnx
  have hacc : acc.Ok := hacce ▸ sumC_ok (fun c hc => hx c (List.mem_of_mem_take hc))
  refine aV (OpVal.ixSl tab_ok rfl rfl rfl rfl rfl hlt) ?_
  refine aV (OpVal.load tab_ok rfl (at_ro 0 rfl) (by show (match seg? l (off + i * 6) 6 with | some vs => some (Value.agg ⟨vs⟩) | none => none) = _; rw [hseg])) ?_
  refine W.new tab_ok rfl rfl (by decide) ?_
  intro b5
  refine aG ?_
  refine W.store tab_ok rfl Upd.here rfl rfl rfl rfl rfl rfl (W.step tab_ok rfl rfl ?_)
  refine aLp (fun m ρ1 L1 => ∃ (j : Nat) (ac2 : C6), j ≤ 6 ∧ ac2 = acc.plus x j ∧ m = 6 - j ∧ ρ1 = [(15, .int .i64 (j : Int)), (5, .pointer (some ⟨b5, 0, none⟩)), (9, .slice (some ⟨b, off, none⟩) xs.length cap), (10, .int .i64 (xs.length : Int)), (11, .int .i64 (i : Int)), (2, .pointer (some ⟨b2, 0, none⟩)), (3, .pointer (some ⟨b3, 0, none⟩))] ∧ L1 = [[(b3, .cells ac2.l.toArray 57 (0, 0))], [(b5, .cells x.l.toArray 57 (0, 0))], [(b2, .cells (⟨0, 0, 0, 0, 0, 0⟩ : C6).l.toArray 57 (0, 0))]]) (o := ⟨0, acc, Nat.zero_le _, rfl, rfl, rfl, rfl⟩) (h := ?_)
  rintro m ρ1 L1 ⟨j, ac2, hj, rfl, rfl, rfl, rfl⟩
  refine aG ?_
  by_cases hjl : j < 6
  ·
   refine aT ?_ (hb := by simp; omega)
   repeat refine gw ?_
   refine aC (o := Get_spec x (j : Int)) (h := ?_)
   rintro _ _ ⟨rfl, rfl⟩
   refine aG ?_
   repeat refine gw ?_
   refine aC (o := Add_spec (acc.plus x j) (j : Int) (x.get (j : Int)).1 (C6.plus_ok hacc hok j) (C6.get_u64 hok _)) (h := ?_)
   rintro _ _ ⟨rfl, rfl⟩
   refine aG ?_
   repeat refine gw ?_
   refine aV (OpVal.add rfl rfl (i64_in _ (by omega))) ?_
   refine aR (o := ⟨6 - (j + 1), by omega, j + 1, _, by omega, (C6.plus_succ _ _ _).symm, rfl, rfl, rfl⟩)
  ·
   refine aF ?_ (hb := by simp; omega)
   have hj6 : j = 6 := by omega
   subst hj6
   refine aV (OpVal.add rfl rfl (i64_in _ (by omega))) ?_
   refine aR (o := ⟨xs.length - (i + 1), by omega, i + 1, _, by omega, hnx.symm, rfl, rfl, rfl⟩)
 ·
  refine aF ?_ (hb := by simp; omega)
  have : i = xs.length := by omega
  subst this
  repeat refine gw ?_
  refine W.ret (fin _ _ (FinOk.mk' ([]) (aRc .nil) (by repeat (first | exact Sel.nil | (apply Sel.cons; (repeat (first | exact Pick.here | apply Pick.there))))) rfl ?_))
  refine ⟨?_, rfl⟩
  rw [List.take_length] at hacce
  rw [← hacce]
  rfl
end Go.Proofs.YtfpghdcjdnifcaaGreat
namespace Go.Proofs.YtfpghdcjdnifcaaGreat
open Go Go.Sl Go.IntWalk
set_option maxHeartbeats 4000000
set_option maxRecDepth 20000
set_option linter.unusedVariables false
structure Rs where
 id : Int
 errno : Int
 hit : Bool
 tick : Int
 data : List Int
 c : C6
structure Tn where
 m : Mc
 p : Pt
 js : List (Int × Rq)
 pages : Int
 ids : Int
 c : C6
 out : List Rs
def noJob : Int × Rq := (0, ⟨0, 0, 0, 0, []⟩)
def Tn.tell (t : Tn) (x : Re) (tick : Int) : Tn :=
 if x.done = true then { t with c := sumC [t.c, x.add], js := t.js.tail, out := t.out ++ [⟨(t.js.headD noJob).1, x.errno, x.hit, tick, x.data, if (t.js.headD noJob).2.op = 8 then sumC [t.c, x.add] else C6.none⟩] }
 else { t with c := sumC [t.c, x.add] }
def Tn.begun (t : Tn) (tick : Int) : Tn := ({ t with m := (mBegin t.m t.p (t.js.headD noJob).2).1, p := (mBegin t.m t.p (t.js.headD noJob).2).2.1 } : Tn).tell (mBegin t.m t.p (t.js.headD noJob).2).2.2 tick
def Tn.run (tick : Int) : Nat → Tn → Tn
 | 0, t => t
 | n + 1, t => if t.m.todo = [] ∧ t.js ≠ [] then Tn.run tick n (t.begun tick) else t
def Tn.go (t : Tn) (tick : Int) : Tn := t.run tick t.js.length
def Tn.submit (d : Nat) (t : Tn) (q : Rq) (tick : Int) : Tn × Int × Int :=
 if rcheck q t.pages ≠ 0 then (t, 0, rcheck q t.pages) else if d ≤ t.js.length then (t, 0, 8)
 else (({ t with js := t.js ++ [(t.ids + 1, q)], ids := t.ids + 1 } : Tn).go tick, t.ids + 1, 0)
def Tn.over (t : Tn) (e : Int) (bs : List Int) (tick : Int) : Tn :=
 (({ t with m := (mEnd t.m t.p e bs).1, p := (mEnd t.m t.p e bs).2.1 } : Tn).tell (mEnd t.m t.p e bs).2.2 tick).go tick
def Tn.taken (t : Tn) : Tn := { t with out := [] }
def Tn.new (n : Nat) (pages : Int) : Tn := ⟨Mc.idle, Pt.new n, [], pages, 0, C6.none, []⟩
structure JOk (q : Rq) : Prop where
 ok : q.Ok
 dl : q.data.length ≤ 32
theorem check_ok {q : Rq} {pages : Int} (h : rcheck q pages = 0) (hu : u8ok q.data) : JOk q := by
 unfold rcheck at h
 split at h
 · cases h
 ·
  rename_i h1
  split at h
  · cases h
  ·
   rename_i h2
   split at h
   · cases h
   ·
    rename_i h3
    have h4 : 1 ≤ q.op ∧ q.op ≤ 8 := Decidable.byContradiction fun hc => h1 (.inl hc)
    have h5 : q = rnamed q := Decidable.byContradiction fun hc => h1 (.inr hc)
    have h6 : 0 ≤ q.page := by
     by_cases h8 : q.op = 6 ∨ q.op = 8
     ·
      have := congrArg Rq.page h5
      unfold rnamed at this
      rw [if_neg (by omega), if_neg (by omega), if_neg (by omega)] at this
      simp only at this
      omega
     · omega
    exact ⟨⟨h4, h6, by unfold i64s; omega, by unfold i64s; omega, hu, by omega⟩, by omega⟩
structure TInv (d : Nat) (t : Tn) : Prop where
 mi : MInv t.m t.p
 cok : t.c.Ok
 jok : ∀ j ∈ t.js, JOk j.2
 len : t.js.length ≤ d
 bz : t.m.todo ≠ [] → t.js ≠ []
 ids : (t.out.length : Int) + t.js.length ≤ t.ids
theorem c6none_ok : C6.none.Ok := zero_ok
theorem sum2_ok {a b : C6} (ha : a.Ok) (hb : b.Ok) : (sumC [a, b]).Ok := sumC_ok fun c hc => by
 simp only [List.mem_cons, List.not_mem_nil, or_false] at hc
 rcases hc with rfl | rfl <;> assumption
theorem planFetch_ne (p : Int) (d : Bool) (o : Int) : planFetch p d o ≠ [] := by cases d <;> simp [planFetch, pages, both]
theorem planFlush_ne (ps : List Int) : planFlush ps ≠ [] := by simp [planFlush]
theorem c01 {c : C6} (h : c.h = 0 ∨ c.h = 1 := by first | exact .inl rfl | exact .inr rfl) (m : c.m = 0 ∨ c.m = 1 := by first | exact .inl rfl | exact .inr rfl) (e : c.e = 0 ∨ c.e = 1 := by first | exact .inl rfl | exact .inr rfl) (r : c.r = 0 ∨ c.r = 1 := by first | exact .inl rfl | exact .inr rfl) (w : c.w = 0 ∨ c.w = 1 := by first | exact .inl rfl | exact .inr rfl) (f : c.f = 0 ∨ c.f = 1 := by first | exact .inl rfl | exact .inr rfl) : c.Ok := by
 unfold C6.Ok u64; omega
theorem begin_done {m : Mc} {p : Pt} (ht : m.todo = []) (q : Rq) : (mBegin m p q).2.2.add.Ok ∧ ((mBegin m p q).2.2.done = true → (mBegin m p q).1.todo = []) ∧ ((mBegin m p q).2.2.done = false → (mBegin m p q).1.todo ≠ []) := by
 unfold mBegin mOp
 split
 ·
  unfold mFetch
  split
  ·
   refine ⟨?_, fun _ => ht, fun h => ?_⟩
   · simp only; split <;> exact c01
   · simp only at h; split at h <;> cases h
  ·
   unfold mMiss
   split
   · exact ⟨c01, fun _ => ht, fun h => by cases h⟩
   ·
    refine ⟨?_, fun h => (by cases h), fun _ => planFetch_ne _ _ _⟩
    simp only; split <;> exact c01
 ·
  split
  ·
   refine ⟨?_, fun _ => ht, fun h => ?_⟩
   · simp only [mRead]; split <;> exact c01
   · simp only [mRead] at h; split at h <;> cases h
  ·
   split
   ·
    refine ⟨?_, fun _ => ht, fun h => ?_⟩
    · simp only [mWrite]; split <;> exact c01
    · simp only [mWrite] at h; split at h <;> cases h
   ·
    split
    · exact ⟨zero_ok, fun _ => ht, fun h => by cases h⟩
    ·
     split
     · exact ⟨zero_ok, fun h => (by cases h), fun _ => planFlush_ne _⟩
     ·
      split
      · exact ⟨zero_ok, fun h => (by cases h), fun _ => planFlush_ne _⟩
      ·
       split
       · exact ⟨zero_ok, fun _ => ht, fun h => by cases h⟩
       · exact ⟨zero_ok, fun _ => ht, fun h => by cases h⟩
theorem tell_inv {d : Nat} {t : Tn} {m : Mc} {p : Pt} {x : Re} (h : TInv d t) (hj : t.js ≠ []) (mi : MInv m p) (ha : x.add.Ok) (h1 : x.done = true → m.todo = []) (tick : Int) : TInv d (({ t with m := m, p := p } : Tn).tell x tick) := by
 unfold Tn.tell
 have hl := h.len
 have hi := h.ids
 have h0 : 0 < t.js.length := List.length_pos_iff.2 hj
 split
 ·
  rename_i hd
  exact ⟨mi, sum2_ok h.cok ha, fun j hm => h.jok j (List.mem_of_mem_tail hm), by simp only [List.length_tail]; omega, fun hb => absurd (h1 hd) hb, by simp only [List.length_tail, List.length_append, List.length_singleton]; omega⟩
 · exact ⟨mi, sum2_ok h.cok ha, h.jok, hl, fun _ => hj, hi⟩
theorem head_mem {js : List (Int × Rq)} (h : js ≠ []) : js.headD noJob ∈ js := by cases js with | nil => exact absurd rfl h | cons j js => simp
theorem begun_inv {d : Nat} {t : Tn} (h : TInv d t) (ht : t.m.todo = []) (hj : t.js ≠ []) (tick : Int) : TInv d (t.begun tick) := by
 have hq := h.jok _ (head_mem hj)
 have hd := begin_done (p := t.p) ht (t.js.headD noJob).2
 exact tell_inv h hj (begin_inv h.mi ht hq.ok.op.1 hq.ok.op.2 hq.ok.u8) hd.1 hd.2.1 tick
theorem begun_step {t : Tn} (ht : t.m.todo = []) (hj : t.js ≠ []) (tick : Int) : ((t.begun tick).m.todo = [] ∧ (t.begun tick).js = t.js.tail) ∨ ((t.begun tick).m.todo ≠ [] ∧ (t.begun tick).js = t.js) := by
 have hd := begin_done (p := t.p) ht (t.js.headD noJob).2
 unfold Tn.begun Tn.tell
 cases hx : (mBegin t.m t.p (t.js.headD noJob).2).2.2.done with
 | true => rw [if_pos rfl]; exact .inl ⟨hd.2.1 hx, rfl⟩
 | false => rw [if_neg (by simp)]; exact .inr ⟨hd.2.2 hx, rfl⟩
theorem run_busy (tick : Int) : ∀ (n : Nat) {t : Tn}, t.m.todo ≠ [] → t.run tick n = t
 | 0, t, _ => rfl
 | n + 1, t, h => by unfold Tn.run; rw [if_neg (fun hc => h hc.1)]
theorem run_none (tick : Int) : ∀ (n : Nat) {t : Tn}, t.js = [] → t.run tick n = t
 | 0, t, _ => rfl
 | n + 1, t, h => by unfold Tn.run; rw [if_neg (fun hc => hc.2 h)]
theorem go_begun {t : Tn} (ht : t.m.todo = []) (hj : t.js ≠ []) (tick : Int) : t.go tick = (t.begun tick).go tick := by
 have h0 : 0 < t.js.length := List.length_pos_iff.2 hj
 obtain ⟨k, hk⟩ : ∃ k, t.js.length = k + 1 := ⟨t.js.length - 1, by omega⟩
 have e : t.go tick = (t.begun tick).run tick k := by
  unfold Tn.go
  rw [hk]
  show (if t.m.todo = [] ∧ t.js ≠ [] then Tn.run tick k (t.begun tick) else t) = _
  rw [if_pos ⟨ht, hj⟩]
 rw [e]
 rcases begun_step ht hj tick with ⟨h1, h2⟩ | ⟨h1, h2⟩
 ·
  unfold Tn.go
  rw [h2, List.length_tail, hk]
  rfl
 · rw [run_busy _ _ h1]; unfold Tn.go; rw [run_busy _ _ h1]
theorem go_quiet {t : Tn} (h : t.m.todo ≠ [] ∨ t.js = []) (tick : Int) : t.go tick = t := by
 unfold Tn.go
 rcases h with h | h
 · exact run_busy _ _ h
 · exact run_none _ _ h
theorem put_inv {d : Nat} {t : Tn} (h : TInv d t) {q : Rq} (hq : JOk q) (hd : ¬ d ≤ t.js.length) : TInv d { t with js := t.js ++ [(t.ids + 1, q)], ids := t.ids + 1 } := by
 refine ⟨h.mi, h.cok, fun j hj => ?_, by simp only [List.length_append, List.length_singleton]; omega, fun _ => by simp, ?_⟩
 ·
  rcases List.mem_append.1 hj with hj | hj
  · exact h.jok j hj
  ·
   simp only [List.mem_singleton] at hj
   subst hj
   exact hq
 ·
  have := h.ids
  simp only [List.length_append, List.length_singleton]; omega
theorem new_inv (d n : Nat) (h1 : 1 ≤ n) (h64 : n ≤ 64) (pages : Int) : TInv d (Tn.new n pages) := ⟨idle_inv (Pt.new_inv h1 h64), c6none_ok, fun _ h => (by cases h), Nat.zero_le _, fun h => absurd rfl h, by simp [Tn.new]⟩
end Go.Proofs.YtfpghdcjdnifcaaGreat
namespace Go.Proofs.YtfpghdcjdnifcaaGreat
open Go Go.Sl Go.IntWalk
set_option maxHeartbeats 8000000
set_option maxRecDepth 20000
set_option linter.unusedVariables false
structure Jb where
 id : Int
 op : Int
 page : Int
 off : Int
 len : Int
 a : Option Addr
 cap : Nat
 xs : List Int
def Jb.l (j : Jb) : List Value := [.int .i64 j.id, .int .i64 j.op, .int .i64 j.page, .int .i64 j.off, .int .i64 j.len, .slice j.a j.xs.length j.cap]
def QAt (m : Nat) (js : List Jb) (b : Nat) (H : HL) : Prop := ∃ (lx : List Value) (at_ br : Nat), lx.length = m * 6 ∧ 1 ≤ m ∧ m ≤ 8 ∧ js.length ≤ m ∧ at_ < m ∧ (∀ i (h : i < js.length), seg? lx (0 + (at_ + i) % m * 6) 6 = some js[i].l) ∧
 H = [(b, Obj.cells (List.toArray [.slice (some ⟨br, 0, none⟩) m m, .int .i64 (at_ : Int), .int .i64 (js.length : Int)]) 317 (0, 0))] ++ [(br, .cells lx.toArray 248 (0, 0))]
theorem QFull_spec (m : Nat) (js : List Jb) (b : Nat) (H : HL) (h : QAt m js b H) : Ctr Tryz.prog 226 [.pointer (some ⟨b, 0, none⟩)] [] H (fun v L' => v = .bool (decide ((js.length : Int) = (m : Int))) ∧ L' = []) := by
 obtain ⟨lx, at_, br, h1, h2, h3, h4, h5, h6, rfl⟩ := h
 refine Ctr.enter (n := 13) [.tmp 2] [(0, _)] Tryz.func226 rfl rfl rfl (lb rfl) Tryz.call226 ⟨rfl, trivial⟩ ?_
 intro cx fin fin0
 refine aG ?_
 refine W.draw follows (by decide +kernel) (zG ?_)
 refine gzx ?_
 refine WZ.nil (aG ?_)
 repeat refine gx ?_
 refine W.ret (fin _ _ (FinOk.first 0 (.tmp rfl .nil) rfl ?_))
 exact ⟨rfl, rfl⟩
theorem QNew_spec (m : Nat) (h1 : 1 ≤ m) (h8 : m ≤ 8) : Ctr Tryz.prog 145 [.int .i64 (m : Int)] [] [] (fun v L' => ∃ b H, v = .tuple #[.pointer (some ⟨b, 0, none⟩), .int .i64 0] ∧ L' = [H] ∧ QAt m [] b H) := by
 have k1 : ¬ (m : Int) < 1 := by omega
 have k2 : ¬ (m : Int) > 1000 := by omega
 refine Ctr.enter (n := 14) [.tmp 2, .tmp 3] [(0, _)] Tryz.func145 rfl rfl rfl (lb rfl) Tryz.call145 ⟨rfl, trivial⟩ ?_
 intro cx fin fin0
 refine aG ?_
 repeat refine gh (gc2 k1 k2) ?_
 refine aW (NewOf.mks (bytes := 64) (len := m) (cap := m) tab_ok rfl rfl rfl rfl rfl rfl rfl rfl rfl (Nat.le_refl _) (by omega) (by omega)) ?_
 intro br
 refine aG ?_
 refine aBu (ps := [_]) ?_
 repeat (first | refine gx ?_ | refine gN fun _ => ?_ | refine gB fun _ => ?_ | fail)
 rename_i b
 refine W.groupV [0, 0] rfl ?_
 refine W.ret (fin _ _ (FinOk.first 1 (.tmp rfl (.tmp rfl .nil)) rfl ?_))
 exact ⟨b, _, rfl, rfl, _, 0, br, by rw [repL_len]; rfl, h1, h8, Nat.zero_le _, h1, (by intro i hi; simp at hi), rfl⟩
def Jb.zero : Jb := ⟨0, 0, 0, 0, 0, none, 0, []⟩
theorem QFirst_spec (m : Nat) (js : List Jb) (b : Nat) (H : HL) (h : QAt m js b H) : Ctr Tryz.prog 228 [.pointer (some ⟨b, 0, none⟩)] [] H
  (fun v L' => v = .tuple #[.agg (js.headD Jb.zero).l.toArray, .bool (decide (0 < js.length))] ∧ L' = []) := by
 obtain ⟨lx, at_, br, h1, h2, h3, h4, h5, h6, rfl⟩ := h
 cases js with
 | nil =>
  have hz : (([] : List Jb).length : Int) = 0 := rfl
  refine Ctr.enter (n := 21) [.cell 2 248, .tmp 3] [(0, _)] Tryz.func228 rfl rfl rfl (lb rfl) Tryz.call228 ⟨rfl, trivial⟩ ?_
  intro cx fin fin0
  refine aG ?_
  repeat (first | refine gh hz ?_ | refine gN fun _ => ?_ | refine gB fun _ => ?_ | fail)
  refine W.ret (fin _ _ (FinOk.first 0 (aRc (.tmp rfl .nil)) rfl ?_))
  exact ⟨rfl, rfl⟩
 | cons j js =>
  have hz : ¬ ((j :: js).length : Int) = 0 := by simp; omega
  have hs := h6 0 (by simp)
  rw [Nat.add_zero, Nat.mod_eq_of_lt h5] at hs
  have hs2 : seg? lx (0 + at_ * 6) 6 = some [.int .i64 j.id, .int .i64 j.op, .int .i64 j.page, .int .i64 j.off, .int .i64 j.len, .slice j.a j.xs.length j.cap] := hs
  refine Ctr.enter (n := 21) [.cell 2 248, .tmp 3] [(0, _)] Tryz.func228 rfl rfl rfl (lb rfl) Tryz.call228 ⟨rfl, trivial⟩ ?_
  intro cx fin fin0
  refine aG ?_
  repeat (first | refine gh hz ?_ | refine gN fun _ => ?_ | refine gB fun _ => ?_ | fail)
  refine W.drawH tab_ok 11 [.b false, .b false, .b false, .b false, .b false, .b false, .b false, .b false, .b false, .b false, .b true] [1] follows (by decide +kernel) (by decide +kernel) rfl (by decide) rfl ?_
  intro _
  refine dG ?_
  refine gdx ?_
  refine dV (OpVal.ixSl (j := at_) tab_ok rfl rfl rfl rfl rfl h5) ?_
  refine dV (OpVal.loadN ty_248.1 ty_248.2 rfl (show At _ _ br (.cells lx.toArray 248 (0, 0)) from .inr (by simp)) hs2) ?_
  refine gdx ?_
  refine WD.nil (W.dropNil (aG ?_))
  repeat refine gx ?_
  refine W.ret (fin _ _ (FinOk.first 0 (aRc (.tmp rfl .nil)) rfl ?_))
  exact ⟨by simp [pack, List.headD, Jb.l], rfl⟩
end Go.Proofs.YtfpghdcjdnifcaaGreat
namespace Go.Proofs.YtfpghdcjdnifcaaGreat
open Go Go.Sl Go.IntWalk
set_option maxHeartbeats 8000000
set_option maxRecDepth 20000
set_option linter.unusedVariables false
theorem spl2 {P : Program} {n : Nat} {R : HL} {cx : Cx} {K : List Kont} {ρ : Env} {L M : List HL} {A B : HL} (h : L = (A ++ B) :: M) (hk : W P n R cx K ρ (A :: B :: M)) : W P n R cx K ρ L := by
 subst h
 exact W.regroup (by simp) hk
theorem tmodN (a b : Nat) : (a : Int).tmod (b : Int) = ((a % b : Nat) : Int) := (Int.ofNat_tmod a b).symm
theorem mod2 {x m : Nat} (h : x < 2 * m) : x % m = if x < m then x else x - m := by
 split
 · exact Nat.mod_eq_of_lt ‹_›
 · rw [Nat.mod_eq_sub_mod (by omega), Nat.mod_eq_of_lt (by omega)]
theorem seg_splice_ne {l l' vs : List Value} {o p k : Nat} (h : splice? l o vs = some l') (hd : p + k ≤ o ∨ o + vs.length ≤ p) (hp : p + k ≤ l.length) : seg? l' p k = seg? l p k := by
 obtain ⟨h1, h2⟩ := splice?_eq _ _ _ h
 have hl : l'.length = l.length := by rw [h2]; simp; omega
 rw [seg?_of _ _ _ (by omega), seg?_of _ _ _ hp]
 congr 1
 apply List.ext_getElem?
 intro i
 rw [h2]
 simp only [List.getElem?_take, List.getElem?_drop, List.getElem?_append, List.length_append, List.length_take]
 split
 ·
  rcases hd with hd | hd
  · rw [if_pos (by omega), if_pos (by omega), if_pos (by omega)]
  ·
   rw [if_neg (by omega)]
   congr 1
   omega
 · rfl
theorem seg_splice_eq {l l' vs : List Value} {o : Nat} (h : splice? l o vs = some l') : seg? l' o vs.length = some vs := by
 obtain ⟨h1, h2⟩ := splice?_eq _ _ _ h
 have ht : (l.take o).length = o := by rw [List.length_take]; omega
 rw [seg?_of _ _ _ (by rw [h2]; simp; omega), h2, List.append_assoc, List.drop_append, ht, Nat.sub_self, List.drop_zero, List.drop_of_length_le (by omega)]
 simp
theorem splice_len {l l' vs : List Value} {o : Nat} (h : splice? l o vs = some l') : l'.length = l.length := by
 obtain ⟨h1, h2⟩ := splice?_eq _ _ _ h
 rw [h2]; simp; omega
theorem QPut_spec (m : Nat) (js : List Jb) (b : Nat) (H : HL) (h : QAt m js b H) (j : Jb) : Ctr Tryz.prog 167 [.pointer (some ⟨b, 0, none⟩), .agg j.l.toArray] [H] []
  (fun v L' => ∃ H', L' = [H'] ∧ ((js.length = m ∧ v = .int .i64 8 ∧ QAt m js b H') ∨ (js.length < m ∧ v = .int .i64 0 ∧ QAt m (js ++ [j]) b H'))) := by
 have hF := QFull_spec m js b H h
 have h0 := h
 obtain ⟨lx, at_, br, h1, h2, h3, h4, h5, h6, rfl⟩ := h
 by_cases hf : (js.length : Int) = (m : Int)
 ·
  refine Ctr.enter (n := 35) [.tmp 4] [(0, _), (1, _)] Tryz.func167 rfl rfl rfl (lb rfl) Tryz.call167 ⟨rfl, rfl, trivial⟩ ?_
  intro cx fin fin0
  refine aG ?_
  repeat (first | refine gx ?_ | refine gN fun _ => ?_ | refine gB fun _ => ?_ | fail)
  refine aC (o := hF) (h := ?_) (hro := RoIn.own 1 rfl)
  rintro _ _ ⟨rfl, rfl⟩
  refine aG ?_
  repeat refine gh hf ?_
  refine W.groupV [1] rfl ?_
  refine W.ret (fin _ _ (FinOk.first 1 (.tmp rfl .nil) rfl ?_))
  exact ⟨_, rfl, .inl ⟨by omega, rfl, h0⟩⟩
 ·
  have hlt : js.length < m := by omega
  have hw : (at_ + js.length) % m < m := Nat.mod_lt _ (by omega)
  have hsp := splice?_of lx (0 + (at_ + js.length) % m * 6) j.l (by rw [h1]; show 0 + _ * 6 + 6 ≤ m * 6; omega)
  generalize lx.take (0 + (at_ + js.length) % m * 6) ++ j.l ++ lx.drop (0 + (at_ + js.length) % m * 6 + j.l.length) = lx' at hsp
  have hq : QAt m (js ++ [j]) b ([(b, Obj.cells (List.toArray [.slice (some ⟨br, 0, none⟩) m m, .int .i64 (at_ : Int), .int .i64 ((js.length : Int) + 1)]) 317 (0, 0))] ++ [(br, .cells lx'.toArray 248 (0, 0))]) := by
   refine ⟨lx', at_, br, by rw [splice_len hsp, h1], h2, h3, by simp; omega, h5, fun i hi => ?_, by simp⟩
   have hi2 : i < js.length + 1 := by simpa using hi
   by_cases he : i = js.length
   ·
    subst he
    rw [List.getElem_append_right (Nat.le_refl _)]
    simp only [Nat.sub_self, List.getElem_singleton]
    exact seg_splice_eq hsp
   ·
    rw [List.getElem_append_left (by omega)]
    rw [seg_splice_ne hsp ?_ ?_]
    · exact h6 i (by omega)
    ·
     show _ ∨ 0 + _ * 6 + 6 ≤ _
     have e1 := mod2 (x := at_ + i) (m := m) (by omega)
     have e2 := mod2 (x := at_ + js.length) (m := m) (by omega)
     rw [e1, e2]
     split <;> split <;> omega
    ·
     have e1 := mod2 (x := at_ + i) (m := m) (by omega)
     rw [h1, e1]
     split <;> omega
  refine Ctr.enter (n := 35) [.tmp 4] [(0, _), (1, _)] Tryz.func167 rfl rfl rfl (lb rfl) Tryz.call167 ⟨rfl, rfl, trivial⟩ ?_
  intro cx fin fin0
  refine aG ?_
  repeat (first | refine gx ?_ | refine gN fun _ => ?_ | refine gB fun _ => ?_ | fail)
  refine aC (o := hF) (h := ?_) (hro := RoIn.own 1 rfl)
  rintro _ _ ⟨rfl, rfl⟩
  refine aG ?_
  repeat refine gh hf ?_
  refine W.order [1, 0] rfl ?_
  refine spl2 rfl ?_
  refine aG ?_
  refine W.drawTail 20 follows (by decide +kernel) (zG ?_)
  refine gzx ?_
  refine zV (OpVal.rem (r := (((at_ + js.length) % m : Nat) : Int)) rfl rfl (by omega) (by rw [← tmodN]; rfl)) ?_
  refine gzx ?_
  refine WZ.nil (aG ?_)
  refine aV (OpVal.ixSl tab_ok rfl rfl rfl rfl rfl hw) ?_
  refine W.store tab_ok rfl (Upd.there Upd.here) rfl rfl rfl rfl rfl hsp (aG ?_)
  repeat refine gx ?_
  refine W.groupV [0, 0] rfl ?_
  refine W.ret (fin _ _ (FinOk.first 1 (.tmp rfl .nil) rfl ?_))
  exact ⟨_, rfl, .inr ⟨hlt, rfl, hq⟩⟩
theorem QTake_spec (m : Nat) (j : Jb) (js : List Jb) (b : Nat) (H : HL) (h : QAt m (j :: js) b H) : Ctr Tryz.prog 263 [.pointer (some ⟨b, 0, none⟩)] [H] []
  (fun v L' => ∃ H', v = .tuple #[.agg j.l.toArray, .bool true] ∧ L' = [H'] ∧ QAt m js b H') := by
 have hF := QFirst_spec m (j :: js) b H h
 have e1 : (j :: js).headD Jb.zero = j := rfl
 have e2 : decide (0 < (j :: js).length) = true := by simp
 rw [e1, e2] at hF
 obtain ⟨lx, at_, br, h1, h2, h3, h4, h5, h6, rfl⟩ := h
 have hl : (j :: js).length = js.length + 1 := rfl
 have hsp := splice?_of lx (0 + at_ * 6) Jb.zero.l (by rw [h1]; show 0 + _ * 6 + 6 ≤ m * 6; omega)
 have ez : lx.take (0 + at_ * 6) ++ repL 1 Jb.zero.l ++ lx.drop (0 + at_ * 6 + 1 * 6) = lx.take (0 + at_ * 6) ++ Jb.zero.l ++ lx.drop (0 + at_ * 6 + Jb.zero.l.length) := rfl
 generalize lx.take (0 + at_ * 6) ++ Jb.zero.l ++ lx.drop (0 + at_ * 6 + Jb.zero.l.length) = lx' at hsp ez
 have hq : QAt m js b ([(b, Obj.cells (List.toArray [.slice (some ⟨br, 0, none⟩) m m, .int .i64 (((at_ + 1) % m : Nat) : Int), .int .i64 (((j :: js).length : Int) - 1)]) 317 (0, 0))] ++ [(br, .cells lx'.toArray 248 (0, 0))]) := by
  rw [show (((j :: js).length : Int) - 1) = (js.length : Int) by simp]
  refine ⟨lx', (at_ + 1) % m, br, by rw [splice_len hsp, h1], h2, h3, by omega, Nat.mod_lt _ (by omega), fun i hi => ?_, rfl⟩
  have h7 := h6 (i + 1) (by simpa using hi)
  have e3 : ((at_ + 1) % m + i) % m = (at_ + (i + 1)) % m := by rw [Nat.mod_add_mod]; congr 1; omega
  rw [e3, seg_splice_ne hsp ?_ ?_]
  · exact h7
  ·
   show _ ∨ 0 + _ * 6 + 6 ≤ _
   have e1 := mod2 (x := at_ + (i + 1)) (m := m) (by omega)
   rw [e1]
   split <;> omega
  ·
   have e1 := mod2 (x := at_ + (i + 1)) (m := m) (by omega)
   rw [h1, e1]
   split <;> omega
 refine Ctr.enter (n := 49) [.cell 2 248, .tmp 3] [(0, _)] Tryz.func263 rfl rfl rfl (lb rfl) Tryz.call263 ⟨rfl, trivial⟩ ?_
 intro cx fin fin0
 refine aG ?_
 repeat (first | refine gx ?_ | refine gN fun _ => ?_ | refine gB fun _ => ?_ | fail)
 refine aC (o := hF) (h := ?_) (hro := RoIn.own 1 rfl)
 rintro _ _ ⟨rfl, rfl⟩
 refine aG ?_
 repeat (first | refine gx ?_ | refine gN fun _ => ?_ | refine gB fun _ => ?_ | fail)
 refine W.order [2, 0, 0] rfl ?_
 refine spl2 rfl ?_
 refine aG ?_
 refine W.drawTail 14 follows (by decide +kernel) (zG ?_)
 refine gzx ?_
 refine zV (OpVal.pieceG (l := at_) (h := at_ + 1) (c := m) tab_ok rfl rfl rfl ⟨_, rfl⟩ ⟨_, rfl⟩ rfl (by omega) (by omega) (by omega)) ?_
 rw [if_neg (show ¬ m = at_ by omega), show at_ + 1 - at_ = 1 by omega]
 refine WZ.nil (aG ?_)
 refine aPu (clearSl (b := br) (m := 6) (ex := 248) (l := lx) (zs := Jb.zero.l) (z := .agg Jb.zero.l.toArray) tab_ok rfl rfl rfl rfl (by decide) rfl (by simp) rfl (by decide) (by rw [h1]; omega)) ?_
 rintro _ _ rfl
 refine aG ?_
 rw [ez]
 refine W.drawTail 12 follows (by decide +kernel) (zG ?_)
 refine gzx ?_
 refine zV (OpVal.rem (r := (((at_ + 1) % m : Nat) : Int)) rfl rfl (by omega) (by rw [← tmodN]; rfl)) ?_
 refine WZ.nil (aG ?_)
 repeat refine gx ?_
 refine W.groupV [1, 0] rfl ?_
 refine W.ret (fin _ _ (FinOk.first 1 (aRc (.tmp rfl .nil)) rfl ?_))
 exact ⟨_, rfl, rfl, hq⟩
end Go.Proofs.YtfpghdcjdnifcaaGreat
namespace Go.Proofs.YtfpghdcjdnifcaaGreat
open Go Go.Sl Go.IntWalk
set_option maxHeartbeats 8000000
set_option maxRecDepth 20000
set_option linter.unusedVariables false
structure Ro where
 r : Rs
 a : Option Addr
 n : Nat
 c : Nat
def Ro.l (o : Ro) : List Value := [.int .i64 o.r.id, .int .i64 o.r.errno, .bool o.r.hit, .int .i64 o.r.tick, .slice o.a o.n o.c, .int .u64 o.r.c.h, .int .u64 o.r.c.m, .int .u64 o.r.c.e, .int .u64 o.r.c.r, .int .u64 o.r.c.w, .int .u64 o.r.c.f]
def Jb.j (j : Jb) : Int × Rq := (j.id, ⟨j.op, j.page, j.off, j.len, j.xs⟩)
def TAt (d : Nat) (t : Tn) (b bp : Nat) (H : HL) : Prop := ∃ (bm bq : Nat) (ao : Option Addr) (co : Nat) (ls : List Jb) (los : List Ro) (Hm Hq Ho D : HL),
 H = [(b, Obj.cells (List.toArray [.pointer (some ⟨bm, 0, none⟩), .pointer (some ⟨bp, 0, none⟩), .pointer (some ⟨bq, 0, none⟩), .int .i64 t.pages, .int .i64 t.ids, .int .u64 t.c.h, .int .u64 t.c.m, .int .u64 t.c.e, .int .u64 t.c.r, .int .u64 t.c.w, .int .u64 t.c.f, .slice ao los.length co]) 252 (0, 0))] ++ (Hm ++ (Hq ++ (Ho ++ D))) ∧
 MAt t.m bm bp Hm ∧ QAt d ls bq Hq ∧ ls.map Jb.j = t.js ∧ Own 11 59 (los.flatMap Ro.l) ao los.length co Ho ∧ los.map Ro.r = t.out ∧
 (∀ j ∈ ls, ∃ r, RoSl 1 (u8s j.xs) j.a j.xs.length r ∧ ∀ q ∈ r, q ∈ D) ∧ (∀ o ∈ los, ∃ r, RoSl 1 (u8s o.r.data) o.a o.n r ∧ o.r.data.length = o.n ∧ ∀ q ∈ r, q ∈ D)
theorem spl5 {P : Program} {n : Nat} {R : HL} {cx : Cx} {K : List Kont} {ρ : Env} {L M : List HL} {A B C D E : HL} (h : L = (A ++ (B ++ (C ++ (D ++ E)))) :: M) (hk : W P n R cx K ρ (A :: B :: C :: D :: E :: M)) : W P n R cx K ρ L := by
 subst h
 exact W.regroup (by simp) hk
theorem sum2_at {a c : C6} (b : Nat) {e : TypeId} : RoSl 6 ([a, c].flatMap C6.l) (some ⟨b, 0, none⟩) [a, c].length [(b, .cells (List.toArray [.int .u64 a.h, .int .u64 a.m, .int .u64 a.e, .int .u64 a.r, .int .u64 a.w, .int .u64 a.f, .int .u64 c.h, .int .u64 c.m, .int .u64 c.e, .int .u64 c.r, .int .u64 c.w, .int .u64 c.f]) e (0, 0))] :=
 ⟨rfl, .inr ⟨b, 0, _, e, (0, 0), rfl, rfl, Nat.le_refl _, rfl⟩⟩
theorem Tell_spec (d : Nat) (t : Tn) (b bp : Nat) (H : HL) (ht : TAt d t b bp H) (x : Re) (hx : x.done = true → t.js ≠ []) (hc : t.c.Ok) (ha : x.add.Ok) (tick : Int) (a : Option Addr) (n c : Nat) (Hd : HL) (hd : RoSl 1 (u8s x.data) a n Hd) (hn : x.data.length = n) (hout : t.out.length ≤ 1000000) :
  Ctr Tryz.prog 229 [.pointer (some ⟨b, 0, none⟩), x.v a n c, .int .i64 tick] [H, Hd] [] (fun _ L' => ∃ H', L' = [H'] ∧ TAt d (t.tell x tick) b bp H') := by
 obtain ⟨bm, bq, ao, co, ls, los, Hm, Hq, Ho, D, rfl, hm, hq, hls, hown, hlo, hlj, hll⟩ := ht
 have hlen : los.length ≤ 1000000 := by rw [← hlo, List.length_map] at hout; exact hout
 have hS := fun bs => Sum_spec [t.c, x.add] (fun q hq => by simp only [List.mem_cons, List.not_mem_nil, or_false] at hq; rcases hq with rfl | rfl <;> assumption) (lb rfl) (some ⟨bs, 0, none⟩) 2 _ (sum2_at (e := 57) bs)
 have htl : t.tell x tick = t.tell x tick := rfl
 conv at htl => rhs; unfold Tn.tell
 generalize t.tell x tick = out at *
 obtain ⟨xd, xe, xh, xdat, ⟨k1, k2, k3, k4, k5, k6⟩⟩ := x
 obtain ⟨tm, tp, tjs, tpg, tids, ⟨c1, c2, c3, c4, c5, c6⟩, tout⟩ := t
 simp only at *
 generalize sumC [⟨c1, c2, c3, c4, c5, c6⟩, ⟨k1, k2, k3, k4, k5, k6⟩] = sm at *
 obtain ⟨s1, s2, s3, s4, s5, s6⟩ := sm
 simp only [Re.v]
 refine Ctr.enter (n := 57) [] [(0, _), (1, _), (2, _)] Tryz.func229 rfl rfl rfl (lb rfl) Tryz.call229 ⟨rfl, rfl, rfl, trivial⟩ ?_
 intro cx fin fin0
 refine aG ?_
 repeat (first | refine gx ?_ | refine gN fun _ => ?_ | refine gB fun _ => ?_ | fail)
 refine W.order [1, 0, 0] rfl ?_
 refine spl5 rfl ?_
 refine aG ?_
 refine W.drawH tab_ok 12 [.b false, .b false, .b false, .b false, .b true, .b false, .b false, .b true, .b true, .b false, .b false, .b true] [0] follows (by decide +kernel) (by decide +kernel) rfl (by decide) rfl ?_
 intro _
 refine dG ?_
 refine dLA ?_
 refine gdx ?_
 refine dSl (ps := [_, _]) ?_
 intro bs
 refine dG ?_
 refine dC (o := hS bs) (h := ?_) (hro := RoIn.own 0 rfl)
 rintro _ _ ⟨rfl, rfl⟩
 refine dG ?_
 refine gdx ?_
 refine WD.nil (W.dropNil (aG ?_))
 refine W.order [1, 1, 1, 1, 3, 1, 1, 0] rfl ?_
 cases xd with
 | false =>
  rw [if_neg (by simp)] at htl
  subst htl
  repeat refine gx ?_
  refine W.groupV [0, 0, 0, 0, 0, 0] rfl ?_
  refine W.ret (fin _ _ (FinOk.first 1 .nil rfl ?_))
  exact ⟨_, rfl, bm, bq, ao, co, ls, los, Hm, Hq, Ho, Hd ++ D, rfl, hm, hq, hls, hown, hlo, fun j hj => (hlj j hj).imp fun r h => ⟨h.1, fun q hq => List.mem_append_right _ (h.2 q hq)⟩, fun o ho => (hll o ho).imp fun r h => ⟨h.1, h.2.1, fun q hq => List.mem_append_right _ (h.2.2 q hq)⟩⟩
 | true =>
  rw [if_pos rfl] at htl
  cases ls with
  | nil => exact absurd hls.symm (hx rfl)
  | cons j ls =>
   have hT := QTake_spec d j ls bq Hq hq
   have hjl := hlj
   obtain ⟨jid, jop, jpg, joff, jlen, ja, jc, jxs⟩ := j
   have hjd : (tjs.headD noJob) = (jid, ⟨jop, jpg, joff, jlen, jxs⟩) := by rw [← hls]; rfl
   have htj : tjs.tail = ls.map Jb.j := by rw [← hls]; rfl
   rw [hjd, htj] at htl
   simp only at htl
   simp only [Jb.l] at hT
   have hfin : ∀ (sc : C6) (a' : Option Addr) (c' : Nat) (Ho' Hq2 : HL), QAt d ls bq Hq2 → Own 11 59 (los.flatMap Ro.l ++ (⟨⟨jid, xe, xh, tick, xdat, sc⟩, a, n, c⟩ : Ro).l) a' (los.length + 1) c' Ho' →
     TAt d ⟨tm, tp, ls.map Jb.j, tpg, tids, ⟨s1, s2, s3, s4, s5, s6⟩, tout ++ [⟨jid, xe, xh, tick, xdat, sc⟩]⟩ b bp ([(b, Obj.cells (List.toArray [.pointer (some ⟨bm, 0, none⟩), .pointer (some ⟨bp, 0, none⟩), .pointer (some ⟨bq, 0, none⟩), .int .i64 tpg, .int .i64 tids, .int .u64 s1, .int .u64 s2, .int .u64 s3, .int .u64 s4, .int .u64 s5, .int .u64 s6, .slice a' (los.length + 1) c']) 252 (0, 0))] ++ (Hm ++ (Hq2 ++ (Ho' ++ (Hd ++ D))))) := by
    intro sc a' c' Ho' Hq2 hq2 ho
    have el : (los ++ [(⟨⟨jid, xe, xh, tick, xdat, sc⟩, a, n, c⟩ : Ro)]).length = los.length + 1 := by simp
    refine ⟨bm, bq, a', c', ls, los ++ [⟨⟨jid, xe, xh, tick, xdat, sc⟩, a, n, c⟩], Hm, Hq2, Ho', Hd ++ D, by rw [el], hm, hq2, rfl, ?_, ?_, ?_, ?_⟩
    · rw [el, List.flatMap_append, List.flatMap_singleton]; exact ho
    · rw [List.map_append, hlo]; rfl
    · exact fun j hj => (hjl j (List.mem_cons_of_mem _ hj)).imp fun r h => ⟨h.1, fun q hq => List.mem_append_right _ (h.2 q hq)⟩
    ·
     intro o ho
     rcases List.mem_append.1 ho with ho | ho
     · exact (hll o ho).imp fun r h => ⟨h.1, h.2.1, fun q hq => List.mem_append_right _ (h.2.2 q hq)⟩
     ·
      rw [List.mem_singleton.1 ho]
      exact ⟨Hd, hd, hn, fun q hq => List.mem_append_left _ hq⟩
   rcases Classical.em (jop = 8) with h8 | h8
   case' inl => rw [if_pos h8] at htl
   case' inr => rw [if_neg h8] at htl
   all_goals
    subst htl
    repeat refine gx ?_
    refine aC (o := hT) (h := ?_)
    rintro _ _ ⟨Hq2, rfl, rfl, hq2⟩
    refine aG ?_
    repeat (first | refine gh h8 ?_ | refine gN fun _ => ?_ | refine gB fun _ => ?_ | fail)
    refine W.order [3, 3, 2, 2, 2, 2, 0] rfl ?_
    refine W.drawH tab_ok 8 [.b false, .b false, .b false, .b false, .b false, .b false, .b true, .b true] [3] follows (by decide +kernel) (by decide +kernel) rfl (by decide) rfl ?_
    intro _
    refine dG ?_
    refine gdx ?_
    refine dSl (ps := [_]) ?_
    intro bt
    refine dG ?_
    refine dAp (hown) ?_
    rintro _ _ ⟨_, _, _, rfl, rfl, ho⟩
    refine dG ?_
    refine gdx ?_
    refine WD.nil (W.dropNil (aG ?_))
    repeat refine gx ?_
    refine W.groupV [2, 2, 2, 0, 1, 1] rfl ?_
    refine fin0 _ _ (FinOk.first 1 .nil rfl ?_)
    exact ⟨_, rfl, hfin _ _ _ _ _ hq2 ho⟩
end Go.Proofs.YtfpghdcjdnifcaaGreat
namespace Go.Proofs.YtfpghdcjdnifcaaGreat
open Go Go.Sl Go.IntWalk
set_option maxHeartbeats 8000000
set_option maxRecDepth 20000
set_option linter.unusedVariables false
theorem _root_.Go.Sl.Ctr.regroup {P : Program} {f : FuncId} {args : List Value} {pre pre' : List HL} {ro : HL} {post : Value → List HL → Prop} (h : Ctr P f args pre ro post) (e : pre.flatten = pre'.flatten) : Ctr P f args pre' ro post :=
 ⟨h.callable, by rw [← e]; exact h.go⟩
def tM (t : Tn) : Nat := t.js.length + (if t.m.todo = [] then 1 else 0)
theorem tM_begun {t : Tn} (ht : t.m.todo = []) (hj : t.js ≠ []) (tick : Int) : tM (t.begun tick) < tM t := by
 have h0 : 0 < t.js.length := List.length_pos_iff.2 hj
 unfold tM
 rw [if_pos ht]
 rcases begun_step ht hj tick with ⟨h1, h2⟩ | ⟨h1, h2⟩
 · rw [if_pos h1, h2, List.length_tail]; omega
 · rw [if_neg h1, h2]; omega
theorem tell_ids (t : Tn) (x : Re) (tick : Int) : (t.tell x tick).ids = t.ids := by unfold Tn.tell; split <;> rfl
theorem begun_ids (t : Tn) (tick : Int) : (t.begun tick).ids = t.ids := tell_ids _ _ _
theorem Run_spec (d : Nat) (t : Tn) (hi : TInv d t) (hid : t.ids ≤ 1000000) (b bp : Nat) (H : HL) (ht : TAt d t b bp H) (Hp : HL) (hp : PtAt t.p bp Hp) (tick : Int) :
  Ctr Tryz.prog 169 [.pointer (some ⟨b, 0, none⟩), .int .i64 tick] [H, Hp] [] (fun _ L' => ∃ H' Hp', L' = [H', Hp'] ∧ TAt d (t.go tick) b bp H' ∧ PtAt (t.go tick).p bp Hp') := by
 generalize hres : t.go tick = res
 refine Ctr.enter (n := 32) [] [(0, _), (1, _)] Tryz.func169 rfl rfl rfl (lb rfl) Tryz.call169 ⟨rfl, rfl, trivial⟩ ?_
 intro cx fin fin0
 refine aG ?_
 refine aLp (fun k ρ1 L1 => ∃ (t' : Tn) (H' Hp' : HL), TInv d t' ∧ t'.ids ≤ 1000000 ∧ res = t'.go tick ∧ TAt d t' b bp H' ∧ PtAt t'.p bp Hp' ∧ k = tM t' ∧ ρ1 = [(0, .pointer (some ⟨b, 0, none⟩)), (1, .int .i64 tick)] ∧ L1 = [H', Hp']) (o := ⟨t, H, Hp, hi, hid, hres.symm, ht, hp, rfl, rfl, rfl⟩) (h := ?_)
 clear ht hp hi hid hres t H Hp
 rintro k ρ1 L1 ⟨t, H, Hp, hi, hid, rfl, ht, hp, rfl, rfl, rfl⟩
 have hta := ht
 obtain ⟨bm, bq, ao, co, ls, los, Hm, Hq, Ho, D, rfl, hm, hq, hls, hown, hlo, hlj, hll⟩ := ht
 have hB := Busy_spec t.m bm bp Hm hm
 have hF := QFirst_spec d ls bq Hq hq
 refine spl5 rfl ?_
 refine aG ?_
 repeat refine gx ?_
 refine aC (o := hB) (h := ?_) (hro := RoIn.own 1 rfl)
 rintro _ _ ⟨rfl, rfl⟩
 refine aG ?_
 repeat refine gx ?_
 rcases Classical.em (t.m.todo = []) with h0 | h0
 case' inr =>
  have hz : 0 < ((t.m.todo.length : Nat) : Int) := by have := List.length_pos_iff.2 h0; omega
  repeat refine gh hz ?_
  refine W.groupV [0, 0, 0, 0, 0] rfl ?_
  refine fin0 _ _ (FinOk.first 2 .nil rfl ?_)
  rw [go_quiet (.inl h0)]
  exact ⟨_, _, rfl, hta, hp⟩
 have hz : ¬ 0 < ((t.m.todo.length : Nat) : Int) := by rw [h0]; decide
 repeat refine gh hz ?_
 refine aC (o := hF) (h := ?_) (hro := RoIn.own 2 rfl)
 rintro _ _ ⟨rfl, rfl⟩
 refine aG ?_
 cases ls with
 | nil =>
  repeat (first | refine gx ?_ | refine gN fun _ => ?_ | refine gB fun _ => ?_ | fail)
  refine W.groupV [1, 1, 1, 1, 1] rfl ?_
  refine W.order [0, 1] rfl ?_
  refine W.ret (fin _ _ (FinOk.first 2 .nil rfl ?_))
  rw [go_quiet (.inr hls.symm)]
  exact ⟨_, _, rfl, hta, hp⟩
 | cons j ls =>
  have hne : t.js ≠ [] := by rw [← hls]; simp
  have hhd : t.js.headD noJob = j.j := by rw [← hls]; rfl
  have hJ := hi.jok _ (head_mem hne)
  rw [hhd] at hJ
  obtain ⟨rj, hrj, hsub⟩ := hlj j (by simp)
  have hbi := begun_inv hi h0 hne tick
  have hbm := tM_begun h0 hne tick
  have hbd := begun_ids t tick
  rw [go_begun h0 hne tick]
  have hd := begin_done (p := t.p) h0 j.j.2
  have hbg : t.begun tick = ({ t with m := (mBegin t.m t.p j.j.2).1, p := (mBegin t.m t.p j.j.2).2.1 } : Tn).tell (mBegin t.m t.p j.j.2).2.2 tick := by unfold Tn.begun; rw [hhd]
  have hBg := Begin_spec t.m bm bp Hm hm t.p hi.mi.inv Hp hp j.j.2 hJ.ok.op.1 hJ.ok.op.2 hJ.ok.off j.a j.cap rj hrj
  have hout : t.out.length ≤ 1000000 := by have := hi.ids; omega
  have hT : ∀ (an : Option Addr) (nn cn : Nat) (H' Hd : HL), MAt (mBegin t.m t.p j.j.2).1 bm bp H' → RoSl 1 (u8s (mBegin t.m t.p j.j.2).2.2.data) an nn Hd → (mBegin t.m t.p j.j.2).2.2.data.length = nn → Ctr Tryz.prog 229 [.pointer (some ⟨b, 0, none⟩), (mBegin t.m t.p j.j.2).2.2.v an nn cn, .int .i64 tick]
    [[(b, Obj.cells (List.toArray [.pointer (some ⟨bm, 0, none⟩), .pointer (some ⟨bp, 0, none⟩), .pointer (some ⟨bq, 0, none⟩), .int .i64 t.pages, .int .i64 t.ids, .int .u64 t.c.h, .int .u64 t.c.m, .int .u64 t.c.e, .int .u64 t.c.r, .int .u64 t.c.w, .int .u64 t.c.f, .slice ao los.length co]) 252 (0, 0))], H', Hq, Ho, D, Hd] [] (fun _ L' => ∃ H', L' = [H'] ∧ TAt d (t.begun tick) b bp H') := fun an nn cn H' Hd g1 g3 g4 => by
   rw [hbg]
   exact (Tell_spec d ({ t with m := (mBegin t.m t.p j.j.2).1, p := (mBegin t.m t.p j.j.2).2.1 } : Tn) b bp _ ⟨bm, bq, ao, co, j :: ls, los, H', Hq, Ho, D, rfl, g1, hq, hls, hown, hlo, hlj, hll⟩ (mBegin t.m t.p j.j.2).2.2 (fun _ => hne) hi.cok hd.1 tick an nn cn Hd g3 g4 hout).regroup (by simp)
  have hbp : ∀ Hp', PtAt (mBegin t.m t.p j.j.2).2.1 bp Hp' → PtAt (t.begun tick).p bp Hp' := fun Hp' h => by
   rw [hbg]; unfold Tn.tell; split <;> exact h
  generalize t.begun tick = t2 at *
  generalize mBegin t.m t.p j.j.2 = mb at *
  repeat (first | refine gx ?_ | refine gN fun _ => ?_ | refine gB fun _ => ?_ | fail)
  refine W.order [1, 1, 1, 1, 1, 1, 0] rfl ?_
  refine W.drawH tab_ok 10 [.b false, .b false, .b false, .b false, .b true, .b false, .b false, .b true, .b false, .b true] [0,1,2,3,4,5] follows (by decide +kernel) (by decide +kernel) rfl (by decide) rfl ?_
  intro _
  refine dG ?_
  refine dLA ?_
  refine gdx ?_
  refine dC (o := hBg) (h := ?_) (hro := (fun q hq => .inl (by simp [hsub q hq])))
  rintro _ _ ⟨an, nn, cn, H', Hp', Hd, rfl, rfl, g1, g2, g3, g4⟩
  refine dG ?_
  refine gdx ?_
  refine dC (o := hT an nn cn H' Hd g1 g3 g4) (h := ?_)
  rintro _ _ ⟨H2, rfl, ht2⟩
  refine dG ?_
  refine WD.nil (W.dropNil (aG ?_))
  refine aR (o := ⟨tM t2, hbm, t2, H2, Hp', hbi, by omega, rfl, ht2, hbp _ g2, rfl, rfl, rfl⟩)
end Go.Proofs.YtfpghdcjdnifcaaGreat
namespace Go.Proofs.YtfpghdcjdnifcaaGreat
open Go Go.Sl Go.IntWalk
set_option maxHeartbeats 8000000
set_option maxRecDepth 20000
set_option linter.unusedVariables false
theorem Submit_spec (d : Nat) (t : Tn) (hi : TInv d t) (hid : t.ids < 1000000) (b bp : Nat) (H : HL) (ht : TAt d t b bp H) (Hp : HL) (hp : PtAt t.p bp Hp) (q : Rq) (hu : u8ok q.data) (hl : q.data.length ≤ 1000000) (hoi : i64s q.off) (hop : i64s q.op) (hq : rcheck q t.pages = 0 → JOk q) (aq : Option Addr) (cq : Nat) (rq : HL) (hrq : RoSl 1 (u8s q.data) aq q.data.length rq) (tick : Int) :
  Ctr Tryz.prog 107 [.pointer (some ⟨b, 0, none⟩), q.v aq cq, .int .i64 tick] [H, Hp] rq (fun v L' => ∃ H' Hp', v = .tuple #[.int .i64 (t.submit d q tick).2.1, .int .i64 (t.submit d q tick).2.2] ∧ L' = [H', Hp'] ∧ TAt d (t.submit d q tick).1 b bp H' ∧ PtAt (t.submit d q tick).1.p bp Hp') := by
 have hta := ht
 obtain ⟨bm, bq, ao, co, ls, los, Hm, Hq, Ho, D, rfl, hm, hqa, hls, hown, hlo, hlj, hll⟩ := ht
 have hC := Check_spec q t.pages hu hl aq cq rq hrq hoi hop
 have hCl := RClone_spec q hl aq cq rq hrq
 have hlen : ls.length = t.js.length := by rw [← hls, List.length_map]
 have hids := hi.ids
 have hput := fun h hd => put_inv hi (hq h) hd
 have hsub : t.submit d q tick = t.submit d q tick := rfl
 conv at hsub => rhs; unfold Tn.submit
 generalize t.submit d q tick = out at *
 obtain ⟨qo, qp, qf, ql, qd⟩ := q
 have hP := fun a' c' => QPut_spec d ls bq Hq hqa ⟨t.ids + 1, qo, qp, qf, ql, a', c', qd⟩
 simp only [Rq.v] at hC hCl ⊢
 generalize rcheck ⟨qo, qp, qf, ql, qd⟩ t.pages = rc at *
 refine Ctr.enter (n := 51) [.tmp 6, .tmp 7] [(0, _), (1, _), (2, _)] Tryz.func107 rfl rfl rfl (lb rfl) Tryz.call107 ⟨rfl, rfl, rfl, trivial⟩ ?_
 intro cx fin fin0
 refine aG ?_
 repeat (first | refine gx ?_ | refine gN fun _ => ?_ | refine gB fun _ => ?_ | fail)
 refine W.order [1, 1, 0] rfl ?_
 refine spl5 rfl ?_
 refine aG ?_
 refine W.draw follows (by decide +kernel) (zG ?_)
 refine gzx ?_
 refine zC (o := hC) (h := ?_) (hro := RoIn.same)
 refine gzx ?_
 refine WZ.nil (aG ?_)
 rcases Classical.em (rc = 0) with h0 | h0
 case' inr =>
  rw [if_pos h0] at hsub
  subst hsub
  repeat refine gh h0 ?_
  refine W.groupV [0, 0, 0, 0, 0] rfl ?_
  refine W.order [0, 0] rfl ?_
  refine W.ret (fin _ _ (FinOk.first 2 (.tmp rfl (.tmp rfl .nil)) rfl ?_))
  exact ⟨_, _, rfl, rfl, hta, hp⟩
 rw [if_neg (fun h => h h0)] at hsub
 repeat refine gh h0 ?_
 refine W.drawH tab_ok 14 [.b false, .b false, .b false, .b false, .b false, .b false, .b false, .b false, .b false, .b false, .b true, .b false, .b true, .b false] [2] follows (by decide +kernel) (by decide +kernel) rfl (by decide) rfl ?_
 intro _
 refine dG ?_
 refine gdx ?_
 refine dC (o := hCl) (h := ?_) (hro := RoIn.all (fun q hq => by simp [hq]))
 rintro _ _ ⟨a2, c2, H2, rfl, rfl, hr2⟩
 refine dG ?_
 refine gdx ?_
 refine dV (OpVal.build (ps := [_, _]) tab_ok rfl rfl rfl rfl (by repeat (first | exact trivial | refine ⟨⟨_, _, _, rfl, rfl, rfl⟩, ?_⟩)) rfl) ?_
 refine dC (o := hP a2 c2) (h := ?_)
 rintro _ _ ⟨Hq2, rfl, ⟨g1, rfl, g2⟩ | ⟨g1, rfl, g2⟩⟩
 refine dG ?_
 ·
  refine gdx ?_
  refine WD.nil (W.dropNil (aG ?_))
  repeat refine gx ?_
  have hf : d ≤ t.js.length := by omega
  rw [if_pos hf] at hsub
  subst hsub
  refine W.groupV [2, 2, 0, 1, 1] rfl ?_
  refine W.order [0, 1] rfl ?_
  refine W.ret (fin _ _ (FinOk.first 2 (.tmp rfl (.tmp rfl .nil)) rfl ?_))
  exact ⟨_, _, rfl, rfl, ⟨bm, bq, ao, co, ls, los, Hm, Hq2, Ho, _, rfl, hm, g2, hls, hown, hlo, hlj, hll⟩, hp⟩
 ·
  refine dG ?_
  refine gdx ?_
  refine WD.nil (W.dropNil (aG ?_))
  repeat refine gx ?_
  have hf : ¬ d ≤ t.js.length := by omega
  rw [if_neg hf] at hsub
  subst hsub
  have hTA : TAt d { t with js := t.js ++ [(t.ids + 1, ⟨qo, qp, qf, ql, qd⟩)], ids := t.ids + 1 } b bp ([(b, Obj.cells (List.toArray [.pointer (some ⟨bm, 0, none⟩), .pointer (some ⟨bp, 0, none⟩), .pointer (some ⟨bq, 0, none⟩), .int .i64 t.pages, .int .i64 (t.ids + 1), .int .u64 t.c.h, .int .u64 t.c.m, .int .u64 t.c.e, .int .u64 t.c.r, .int .u64 t.c.w, .int .u64 t.c.f, .slice ao los.length co]) 252 (0, 0))] ++ (Hm ++ (Hq2 ++ (Ho ++ (H2 ++ D))))) := by
   refine ⟨bm, bq, ao, co, _, los, Hm, Hq2, Ho, H2 ++ D, rfl, hm, g2, by rw [List.map_append, hls]; rfl, hown, hlo, fun j hj => ?_, fun o ho => (hll o ho).imp fun r h => ⟨h.1, h.2.1, fun q hq => List.mem_append_right _ (h.2.2 q hq)⟩⟩
   rcases List.mem_append.1 hj with hj | hj
   · exact (hlj j hj).imp fun r h => ⟨h.1, fun q hq => List.mem_append_right _ (h.2 q hq)⟩
   ·
    rw [List.mem_singleton.1 hj]
    exact ⟨H2, hr2, fun q hq => List.mem_append_left _ hq⟩
  have hR := Run_spec d _ (hput h0 hf) (by show t.ids + 1 ≤ 1000000; omega) b bp _ hTA Hp hp tick
  refine W.groupV [2, 2, 0, 1, 0, 0] rfl ?_
  refine aC (o := hR) (h := ?_)
  rintro _ _ ⟨H3, Hp3, rfl, ht3, hp3⟩
  refine aG ?_
  repeat refine gx ?_
  refine W.ret (fin _ _ (FinOk.first 2 (.tmp rfl (.tmp rfl .nil)) rfl ?_))
  exact ⟨_, _, rfl, rfl, ht3, hp3⟩
theorem TNew_spec (n d : Nat) (h1 : 1 ≤ d) (h8 : d ≤ 8) (pages : Int) (hp1 : 1 ≤ pages) (hp64 : pages ≤ 64) (bp : Nat) : Ctr Tryz.prog 89 [.pointer (some ⟨bp, 0, none⟩), .int .i64 (d : Int), .int .i64 pages] [] []
  (fun v L' => ∃ b H, v = .tuple #[.pointer (some ⟨b, 0, none⟩), .int .i64 0] ∧ L' = [H] ∧ TAt d (Tn.new n pages) b bp H) := by
 have k1 : ¬ (d : Int) < 1 := by omega
 have k2 : ¬ (d : Int) > 8 := by omega
 have k3 : ¬ pages < 1 := by omega
 have k4 : ¬ pages > 64 := by omega
 have hQ := QNew_spec d h1 h8
 have hM := MNew_spec bp
 refine Ctr.enter (n := 37) [.tmp 6, .tmp 7] [(0, _), (1, _), (2, _)] Tryz.func89 rfl rfl rfl (lb rfl) Tryz.call89 ⟨rfl, rfl, rfl, trivial⟩ ?_
 intro cx fin fin0
 refine aG ?_
 repeat refine gh (gc4 k1 k2 k3 k4) ?_
 refine aC (o := hQ) (h := ?_)
 rintro _ _ ⟨bq, Hq, rfl, rfl, hq⟩
 refine aG ?_
 repeat refine gx ?_
 refine aC (o := hM) (h := ?_)
 rintro _ _ ⟨bm, Hm, rfl, rfl, hm⟩
 refine aG ?_
 repeat refine gx ?_
 refine aBu (ps := [_, _, _, _]) ?_
 repeat (first | refine gx ?_ | refine gN fun _ => ?_ | refine gB fun _ => ?_ | fail)
 refine W.nilChunk ?_
 refine W.nilChunk ?_
 refine W.groupV [2, 2, 2, 0, 0] rfl ?_
 refine W.ret (fin _ _ (FinOk.first 1 (.tmp rfl (.tmp rfl .nil)) rfl ?_))
 exact ⟨_, _, rfl, rfl, bm, bq, none, 0, [], [], Hm, Hq, [], [], rfl, hm, hq, rfl, Own.nil 11 _, rfl, fun _ h => (by cases h), fun _ h => (by cases h)⟩
end Go.Proofs.YtfpghdcjdnifcaaGreat
namespace Go.Proofs.YtfpghdcjdnifcaaGreat
def poly : Nat := 3988292384
def cstep (x : Nat) : Nat := if x % 2 = 1 then (x / 2) ^^^ poly else x / 2
def csteps : Nat → Nat → Nat
 | 0, x => x
 | k + 1, x => csteps k (cstep x)
theorem csteps_add (a b x : Nat) : csteps (a + b) x = csteps b (csteps a x) := by
 induction a generalizing x with
 | zero => rw [Nat.zero_add]; rfl
 | succ a ih => rw [Nat.succ_add]; exact ih (cstep x)
theorem cstep_xor (a b : Nat) : cstep (a ^^^ b) = cstep a ^^^ cstep b := by
 have h2 : (a ^^^ b) / 2 = a / 2 ^^^ b / 2 := Nat.xor_div_two
 have h1 : (a ^^^ b) % 2 = (a % 2) ^^^ (b % 2) := Nat.xor_mod_two_pow (n := 1)
 unfold cstep
 rw [h1, h2]
 rcases Nat.mod_two_eq_zero_or_one a with ha | ha <;> rcases Nat.mod_two_eq_zero_or_one b with hb | hb <;> rw [ha, hb]
 · rfl
 · rw [if_pos (by decide), if_neg (by decide), if_pos rfl, Nat.xor_assoc]
 · rw [if_pos (by decide), if_pos rfl, if_neg (by decide), Nat.xor_assoc, Nat.xor_assoc, Nat.xor_comm poly]
 · rw [if_neg (by decide), if_pos rfl, if_pos rfl, Nat.xor_assoc, Nat.xor_comm poly, Nat.xor_assoc, Nat.xor_self, Nat.xor_zero]
theorem csteps_xor (k a b : Nat) : csteps k (a ^^^ b) = csteps k a ^^^ csteps k b := by
 induction k generalizing a b with
 | zero => rfl
 | succ k ih => show csteps k (cstep (a ^^^ b)) = _; rw [cstep_xor, ih]; rfl
theorem cstep_even (m : Nat) : cstep (2 * m) = m := by
 unfold cstep
 rw [if_neg (by omega)]
 omega
theorem csteps_even (q : Nat) : csteps 8 (256 * q) = q := by
 have e : 256 * q = 2 * (2 * (2 * (2 * (2 * (2 * (2 * (2 * q))))))) := by omega
 rw [e]
 simp only [csteps, cstep_even]
theorem poly_lt : poly < 2 ^ 32 := by decide
theorem cstep_lt {x : Nat} (h : x < 2 ^ 32) : cstep x < 2 ^ 32 := by
 unfold cstep
 split
 · exact Nat.xor_lt_two_pow (by omega) poly_lt
 · omega
theorem csteps_lt : ∀ (k : Nat) {x : Nat}, x < 2 ^ 32 → csteps k x < 2 ^ 32
 | 0, _, h => h
 | k + 1, _, h => csteps_lt k (cstep_lt h)
def crow (c : Nat) : Nat := csteps 8 c
theorem split256 (y : Nat) : y = (256 * (y / 256)) ^^^ (y % 256) := by
 have h : 256 * (y / 256) + y % 256 = y := by omega
 have h2 : 2 ^ 8 * (y / 256) + y % 256 = 2 ^ 8 * (y / 256) ||| y % 256 := Nat.two_pow_add_eq_or_of_lt (by omega) _
 apply Nat.eq_of_testBit_eq
 intro i
 rw [Nat.testBit_xor]
 conv => lhs; rw [← h]
 have h3 : 256 * (y / 256) + y % 256 = 256 * (y / 256) ||| y % 256 := h2
 rw [h3, Nat.testBit_or]
 have h4 : (256 * (y / 256)).testBit i = (decide (8 ≤ i) && (y / 256).testBit (i - 8)) := by
  have := Nat.testBit_two_pow_mul (a := y / 256) (i := 8) (j := i)
  simpa using this
 have h5 : (y % 256).testBit i = (decide (i < 8) && y.testBit i) := by
  have := Nat.testBit_mod_two_pow y 8 i
  simpa using this
 rw [h4, h5]
 by_cases hi : i < 8
 · simp [hi, show ¬ 8 ≤ i by omega]
 · simp [hi]
theorem csteps_row (y : Nat) : csteps 8 y = (y / 256) ^^^ crow (y % 256) := by
 conv => lhs; rw [split256 y]
 rw [csteps_xor, csteps_even]
 rfl
theorem crc_byte (x c : Nat) (hc : c < 256) : csteps 8 (x ^^^ c) = (x / 256) ^^^ crow ((x % 256) ^^^ c) := by
 rw [csteps_row]
 have h1 : (x ^^^ c) / 256 = x / 256 := by
  have := Nat.xor_div_two_pow (a := x) (b := c) (n := 8)
  rw [show (2 : Nat) ^ 8 = 256 from rfl] at this
  rw [this, Nat.div_eq_of_lt hc, Nat.xor_zero]
 have h2 : (x ^^^ c) % 256 = (x % 256) ^^^ c := by
  have := Nat.xor_mod_two_pow (a := x) (b := c) (n := 8)
  rw [show (2 : Nat) ^ 8 = 256 from rfl] at this
  rw [this, Nat.mod_eq_of_lt hc]
 rw [h1, h2]
theorem xor_all {n : Nat} (h : n < 2 ^ 32) : 4294967295 ^^^ n = 4294967295 - n := by
 have h1 : (BitVec.allOnes 32 ^^^ BitVec.ofNat 32 n).toNat = 4294967295 - n := by
  rw [BitVec.allOnes_xor, BitVec.toNat_not, BitVec.toNat_ofNat, Nat.mod_eq_of_lt h]
 rw [BitVec.toNat_xor, BitVec.toNat_allOnes, BitVec.toNat_ofNat, Nat.mod_eq_of_lt h] at h1
 exact h1
def crcFrom : Nat → List Nat → Nat
 | x, [] => x
 | x, c :: l => crcFrom (csteps 8 (x ^^^ c)) l
def crcNat (l : List Nat) : Nat := 4294967295 - crcFrom 4294967295 l
theorem crcFrom_append (x : Nat) (a b : List Nat) : crcFrom x (a ++ b) = crcFrom (crcFrom x a) b := by
 induction a generalizing x with
 | nil => rfl
 | cons c l ih => exact ih _
theorem crcFrom_lt : ∀ {l : List Nat} {x : Nat}, x < 2 ^ 32 → (∀ c ∈ l, c < 256) → crcFrom x l < 2 ^ 32
 | [], _, h, _ => h
 | c :: l, x, h, hl => crcFrom_lt (l := l) (csteps_lt 8 (Nat.xor_lt_two_pow h (Nat.lt_of_lt_of_le (hl c (by simp)) (by decide)))) fun d hd => hl d (by simp [hd])
end Go.Proofs.YtfpghdcjdnifcaaGreat
namespace Go.Sl
open Go Go.IntWalk
set_option linter.unusedVariables false
section
variable {P : Program} {n : Nat} {R : HL} {cx : Cx} {k : List Kont} {ρ : Env} {L : List HL} {α : Type}
def IsMq (kk : IntKind) (f : α → Value) (m : List (Int × α)) (b : Nat) (H : HL) : Prop :=
 ∃ es clock, H = [(b, .map es clock)] ∧ MapIs kk f es.toList m ∧ (∀ x ∈ es.toList, x.born < clock) ∧ (es.toList.map (·.born)).Nodup
def IsRg (kk : IntKind) (f : α → Value) (m todo : List (Int × α)) (cur : Option (Int × α)) (b r : Nat) (H : HL) : Prop :=
 ∃ es clock since seen c0, H = [(b, .map es clock), (r, .mapIter (some b) since seen c0)] ∧ MapIs kk f es.toList m ∧ (es.toList.map (·.born)).Nodup ∧ (∀ x ∈ es.toList, x.born < since) ∧ (∀ x ∈ es.toList, x.born < clock) ∧ since ≤ c0 ∧ since ≤ clock ∧
  MapIs kk f (leftOf es seen).toList todo ∧ ∀ q, cur = some q → ∃ (s : Array Nat) (e : MapEntry), seen = s.push e.born ∧ c0 = clock ∧ e ∈ es.toList ∧ e.key = .int kk q.1 ∧ e.val = f q.2
theorem MapIs.at_ {kk : IntKind} {f : α → Value} {es : List MapEntry} {m : List (Int × α)} (h : MapIs kk f es m) {j : Nat} {e : MapEntry} (he : es[j]? = some e) : ∃ hj : j < m.length, e.key = .int kk m[j].1 ∧ e.val = f m[j].2 := by
 unfold MapIs at h
 have h1 := congrArg (·[j]?) h
 simp only [List.getElem?_map, he, Option.map_some] at h1
 cases hm : m[j]? with
 | none => rw [hm] at h1; cases h1
 | some q =>
  rw [hm] at h1
  obtain ⟨hj, rfl⟩ := List.getElem?_eq_some_iff.1 hm
  simp only [Option.map_some, Option.some.injEq, Prod.mk.injEq] at h1
  exact ⟨hj, h1.1, h1.2⟩
theorem NewOf.range {t kt et ty : TypeId} {x : Operand} {b clock : Nat} {es : Array MapEntry} (ht : P.underlying t = some (.map kt et)) (hx : ev? ρ x = some (.map (some b))) (hb : At R L b (.map es clock)) :
  NewOf P n R cx (.range t x) ty ρ L (.mapIter (some b) clock #[] clock) (fun r => .pointer (some ⟨r, 0, none⟩)) := by
 refine ⟨fun oo a w ho hty hf hs => ⟨w.drawn, ?_⟩⟩
 unfold execOp; rw [ho]
 have hg := MapKept.run_getObj_map (P := P) (hb.heap hs)
 simp [Instr.range, hf.ev hx, run_underlying ht, hg, Result.andThen, newObj, Sem.run]
theorem IsMq.rg {kk : IntKind} {f : α → Value} {m : List (Int × α)} {b r clock : Nat} {es : Array MapEntry} (hm : MapIs kk f es.toList m) (hc : ∀ x ∈ es.toList, x.born < clock) (hn : (es.toList.map (·.born)).Nodup) :
  IsRg kk f m m none b r [(b, .map es clock), (r, .mapIter (some b) clock #[] clock)] := by
 refine ⟨es, clock, clock, #[], clock, rfl, hm, hn, hc, hc, Nat.le_refl _, Nat.le_refl _, ?_, fun q h => by cases h⟩
 have : leftOf es #[] = es := by unfold leftOf; simp
 rw [this]
 exact hm
theorem OpVal.entry {kk : IntKind} {f : α → Value} {m todo : List (Int × α)} {q : Int × α} {b r ty : Nat} {x : Operand} {H : HL} (hx : ev? ρ x = some (.pointer (some ⟨r, 0, none⟩))) (hH : ∀ p ∈ H, At R L p.1 p.2) (h : IsRg kk f m todo (some q) b r H) :
  OpVal P n R cx (.entry x) ty ρ L (.tuple #[.int kk q.1, f q.2]) := by
 obtain ⟨es, clock, since, seen, c0, rfl, hm, hn, hb, hb2, hsc, hsk, ht, hcur⟩ := h
 obtain ⟨s, e, rfl, rfl, h1, h2, h3⟩ := hcur q rfl
 refine ⟨fun oo a w ho hty hf hs => ?_⟩
 have g1 := (hH (b, .map es c0) (by simp)).heap hs
 have g2 := (hH (r, .mapIter (some b) since (s.push e.born) c0) (by simp)).heap hs
 have g3 := run_entry_at (P := P) w r b since s es c0 e g2 g1 h1 hn
 unfold execOp; rw [ho]
 simp [hf.ev hx, g3, h2, h3, Result.andThen]
theorem run_bits {op : BinOp} {kk : IntKind} {a b r : Nat} (ha : a < 2 ^ kk.bits) (hb : b < 2 ^ kk.bits) (hr : (r : Int) = kk.wrap r)
  (ho : (op = .xor ∧ r = a ^^^ b) ∨ (op = .and ∧ r = a &&& b) ∨ (op = .or ∧ r = a ||| b)) (w : World) : (Op.intBits op kk a b).run P w = .ok (.int kk r) w := by
 have e1 : ∀ x : Nat, x < 2 ^ kk.bits → (BitVec.ofInt kk.bits (x : Int)).toNat = x := fun x hx => by
  rw [BitVec.ofInt_natCast, BitVec.toNat_ofNat, Nat.mod_eq_of_lt hx]
 rcases ho with ⟨rfl, rfl⟩ | ⟨rfl, rfl⟩ | ⟨rfl, rfl⟩
 all_goals
  simp only [Op.intBits, BitVec.toNat_xor, BitVec.toNat_and, BitVec.toNat_or, e1 a ha, e1 b hb]
  rw [← hr]
  rfl
theorem OpVal.bitsN {op : BinOp} {t t' ty : TypeId} {x y : Operand} {kk : IntKind} {i j : Int} {a b r : Nat} (hx : ev? ρ x = some (.int kk i)) (hy : ev? ρ y = some (.int kk j)) (hi : i = a) (hj : j = b)
  (ha : a < 2 ^ kk.bits) (hb : b < 2 ^ kk.bits) (hr : (r : Int) = kk.wrap r) (ho : (op = .xor ∧ r = a ^^^ b) ∨ (op = .and ∧ r = a &&& b) ∨ (op = .or ∧ r = a ||| b)) : OpVal P n R cx (.binOp op t x y t') ty ρ L (.int kk r) := by
 refine ⟨fun oo ac w hoo hty hf hs => ?_⟩
 subst hi hj
 have h := run_bits (P := P) ha hb hr ho w
 unfold execOp; rw [hoo]
 rcases ho with ⟨rfl, rfl⟩ | ⟨rfl, rfl⟩ | ⟨rfl, rfl⟩ <;> simp [hf.ev hx, hf.ev hy, eqGuard, binOp, h, Result.andThen]
theorem OpVal.xor32 {t t' ty : TypeId} {x y : Operand} {i j : Int} {a b : Nat} (hx : ev? ρ x = some (.int .u32 i)) (hy : ev? ρ y = some (.int .u32 j)) (ha : a < 2 ^ 32) (hb : b < 2 ^ 32) (hi : i = a := by rfl) (hj : j = b := by rfl) :
  OpVal P n R cx (.binOp .xor t x y t') ty ρ L (.int .u32 ((a ^^^ b : Nat) : Int)) := by
 have h := Nat.xor_lt_two_pow ha hb
 refine OpVal.bitsN hx hy hi hj ha hb ?_ (.inl ⟨rfl, rfl⟩)
 exact (u32_in _ (by omega)).symm
theorem OpVal.shrN {t t' ty : TypeId} {x y : Operand} {kk k2 : IntKind} {i j : Int} {a c : Nat} (hx : ev? ρ x = some (.int kk i)) (hy : ev? ρ y = some (.int k2 j)) (hi : i = a := by rfl) (hj : j = c := by rfl) (hc : c ≤ kk.bits := by decide) :
  OpVal P n R cx (.binOp .shr t x y t') ty ρ L (.int kk ((a / 2 ^ c : Nat) : Int)) := by
 refine ⟨fun oo ac w hoo hty hf hs => ?_⟩
 subst hi hj
 have hm : min c kk.bits = c := Nat.min_eq_left hc
 have hn : ¬ ((c : Int) < 0) := by omega
 have hd : (a : Int).fdiv (2 ^ c) = ((a / 2 ^ c : Nat) : Int) := by
  have e : (2 : Int) ^ c = ((2 ^ c : Nat) : Int) := by simp
  rw [e, Int.fdiv_eq_ediv_of_nonneg _ (Int.natCast_nonneg _)]
  rfl
 unfold execOp; rw [hoo]
 simp only [hf.ev hx, hf.ev hy, eqGuard, binOp, Op.shift, if_neg hn, Int.toNat_natCast, hm, hd]
 rfl
theorem OpVal.not32 {t ty : TypeId} {x : Operand} {i : Int} {a : Nat} (hx : ev? ρ x = some (.int .u32 i)) (ha : a < 2 ^ 32) (hi : i = a := by rfl) :
  OpVal P n R cx (.unOp .xor t x) ty ρ L (.int .u32 ((4294967295 ^^^ a : Nat) : Int)) := by
 refine ⟨fun oo ac w hoo hty hf hs => ?_⟩
 subst hi
 have h := run_bits (P := P) (op := .xor) (kk := .u32) (a := 4294967295) (b := a) (r := 4294967295 ^^^ a) (by decide) ha (u32_in _ (by have := Nat.xor_lt_two_pow (x := 4294967295) (n := 32) (by decide) ha; omega)).symm (.inl ⟨rfl, rfl⟩) w
 unfold execOp; rw [hoo]
 have hmx : IntKind.u32.max = ((4294967295 : Nat) : Int) := by decide
 simp [hf.ev hx, Op.unary, IntKind.signed, hmx]
 rw [show (4294967295 : Int) = ((4294967295 : Nat) : Int) from rfl, h]
 rfl
end
end Go.Sl
namespace Go.Proofs.YtfpghdcjdnifcaaGreat
open Go Go.Sl Go.IntWalk
set_option maxHeartbeats 4000000
set_option maxRecDepth 20000
set_option linter.unusedVariables false
theorem sgAll (l : List Value) : seg? l 0 l.length = some l := by rw [seg?_of _ _ _ (by omega)]; simp
theorem spAll {l vs : List Value} (h : vs.length = l.length) : splice? l 0 vs = some vs := by rw [splice?_of _ _ _ (by omega)]; simp [h]
theorem u32n {r : Nat} (h : r < 2 ^ 32) : IntKind.u32.wrap (r : Int) = (r : Int) := u32_in _ (by omega)
theorem u8n {r : Nat} (h : r < 256) : IntKind.u8.wrap (r : Int) = (r : Int) := u8_in _ (by omega)
theorem u8mod (x : Nat) : IntKind.u8.wrap (x : Int) = ((x % 256 : Nat) : Int) := by rw [IntKind.wrap_u8]; omega
theorem cstep_mul (x : Nat) : (x / 2 ^ 1) ^^^ (poly * (x &&& 1)) = cstep x := by
 rw [Nat.and_one_is_mod]
 unfold cstep
 rcases Nat.mod_two_eq_zero_or_one x with h | h <;> rw [h]
 · rw [if_neg (by decide), Nat.mul_zero, Nat.xor_zero]
 · rw [if_pos rfl, Nat.mul_one]
theorem csteps_snoc (k x : Nat) : csteps (k + 1) x = cstep (csteps k x) := by rw [csteps_add]; rfl
def trow (i : Nat) : List Value := (List.range i).map (fun c => Value.int .u32 (crow c : Int)) ++ List.replicate (256 - i) (.int .u32 0)
theorem trow_len {i : Nat} (h : i ≤ 256) : (trow i).length = 256 := by simp [trow]; omega
theorem trow_next {i : Nat} (h : i < 256) : splice? (trow i) (0 + i * 1) [.int .u32 (crow i : Int)] = some (trow (i + 1)) := by
 have hl := trow_len (Nat.le_of_lt h)
 rw [splice?_of _ _ _ (by simp [hl]; omega)]
 congr 1
 have e1 : (trow i).take (0 + i * 1) = (List.range i).map (fun c => Value.int .u32 (crow c : Int)) := by
  unfold trow
  rw [List.take_append_of_le_length (by simp)]
  rw [List.take_of_length_le (by simp)]
 have e2 : (trow i).drop (0 + i * 1 + 1) = List.replicate (256 - (i + 1)) (.int .u32 0) := by
  unfold trow
  rw [List.drop_append, List.drop_of_length_le (by simp), List.nil_append, List.drop_replicate]
  congr 1
  simp
  omega
 rw [e1, show [Value.int IntKind.u32 ↑(crow i)].length = 1 from rfl, e2]
 unfold trow
 rw [List.range_succ, List.map_append]
 rfl
theorem trow_at {i : Nat} (h : i < 256) : (trow 256)[0 + i * 1]? = some (.int .u32 (crow i : Int)) := by
 unfold trow
 rw [List.getElem?_append_left (by simp; omega)]
 simp [h]
theorem allOne_u32 : ∀ l : List Value, (∀ v ∈ l, ∃ x, v = Value.int .u32 x) → allOne l = true := fun l h => allOne_of fun v hv => by obtain ⟨x, rfl⟩ := h v hv; rfl
theorem trow_one : allOne (trow 256) = true := allOne_u32 _ fun v hv => by
 simp only [trow, Nat.sub_self, List.replicate_zero, List.append_nil, List.mem_map] at hv
 obtain ⟨c, -, rfl⟩ := hv
 exact ⟨_, rfl⟩
theorem trow_zero : ZeroOf Tryz.prog 392 (.agg (trow 0).toArray) := fun w => by
 have := Tryz.zeroValue392 w
 rw [this]
 rfl
theorem table_spec : Ctr Tryz.prog 278 [] [] [] (fun v L' => v = .agg (trow 256).toArray ∧ L' = []) := by
 have hnew : ∀ {n : Nat} {R : HL} {cx : Cx} {ty : Nat} {ρ : Env} {L : List HL}, NewOf Tryz.prog n R cx (.alloc 392) ty ρ L (.cells (trow 0).toArray 392 (0, 0)) (fun b => .pointer (some ⟨b, 0, none⟩)) := NewOf.alloc trow_zero rfl
 have l256 := trow_len (i := 256) (Nat.le_refl _)
 refine Ctr.enter (n := 25) [.cell 0 392] [] Tryz.func278 rfl rfl rfl (lb rfl) Tryz.call278 trivial ?_
 intro cx fin fin0
 refine aG ?_
 refine aW (hnew) ?_
 intro _
 refine aG ?_
 rename_i b0
 refine aW (hnew) ?_
 intro _
 refine aG ?_
 rename_i b1
 refine aLp (fun k ρ1 L1 => ∃ i : Nat, i ≤ 256 ∧ k = 256 - i ∧ ρ1 = [(5, .int .i64 (i : Int)), (1, .pointer (some ⟨b1, 0, none⟩)), (0, .pointer (some ⟨b0, 0, none⟩))] ∧ L1 = [[(b1, .cells (trow i).toArray 392 (0, 0))], [(b0, .cells (trow 0).toArray 392 (0, 0))]]) (o := ⟨0, by decide, rfl, rfl, rfl⟩) (h := ?_)
 rintro k ρ1 L1 ⟨i, hi, rfl, rfl, rfl⟩
 refine aG ?_
 by_cases hlt : i < 256
 ·
  have hz1 : (i : Int) < 256 := by omega
  repeat (first | refine gh hz1 ?_ | refine gN fun _ => ?_ | refine gB fun _ => ?_ | fail)
  refine aV (OpVal.conv tab_ok rfl rfl rfl (u32n (by omega))) ?_
  refine aLp (fun k ρ1 L1 => ∃ j : Nat, j ≤ 8 ∧ k = 8 - j ∧ ρ1 = [(10, .int .i64 (j : Int)), (3, .int .u32 (csteps j i : Int)), (2, .int .i64 (i : Int)), (5, .int .i64 (i : Int)), (1, .pointer (some ⟨b1, 0, none⟩)), (0, .pointer (some ⟨b0, 0, none⟩))] ∧ L1 = [[(b1, .cells (trow i).toArray 392 (0, 0))], [(b0, .cells (trow 0).toArray 392 (0, 0))]]) (o := ⟨0, by decide, rfl, rfl, rfl⟩) (h := ?_)
  rintro k ρ1 L1 ⟨j, hj, rfl, rfl, rfl⟩
  refine aG ?_
  by_cases hlt2 : j < 8
  ·
   have hz2 : (j : Int) < 8 := by omega
   have hb := csteps_lt j (x := i) (by omega)
   have hm : csteps j i &&& 1 = csteps j i % 2 := Nat.and_one_is_mod _
   have hc := cstep_mul (csteps j i)
   rw [← csteps_snoc] at hc
   generalize csteps j i = x at *
   repeat (first | refine gh hz2 ?_ | refine gN fun _ => ?_ | refine gB fun _ => ?_ | fail)
   refine aV (OpVal.bitsN (a := x) (b := 1) (r := x &&& 1) rfl rfl rfl rfl hb (by decide) (u32n (by omega)).symm (.inr (.inl ⟨rfl, rfl⟩))) ?_
   refine aV (OpVal.shrN (a := x) (c := 1) rfl rfl) ?_
   refine aV (OpVal.mul (r := ((poly * (x &&& 1) : Nat) : Int)) rfl rfl (by rw [← u32n (r := poly * (x &&& 1)) (by have := poly_lt; rcases Nat.mod_two_eq_zero_or_one x with h | h <;> rw [hm, h] <;> omega)]; rfl)) ?_
   refine aV (OpVal.xor32 (a := x / 2 ^ 1) (b := poly * (x &&& 1)) rfl rfl (by omega) (by have := poly_lt; rcases Nat.mod_two_eq_zero_or_one x with h | h <;> rw [hm, h] <;> omega)) ?_
   rw [hc]
   repeat (first | refine gh hz2 ?_ | refine gN fun _ => ?_ | refine gB fun _ => ?_ | fail)
   refine aR (o := ⟨8 - (j + 1), by omega, j + 1, by omega, rfl, rfl, rfl⟩)
  ·
   obtain rfl : j = 8 := by omega
   repeat (first | refine gx ?_ | refine gN fun _ => ?_ | refine gB fun _ => ?_ | fail)
   refine aV (OpVal.indexAr (j := i) rfl rfl Tryz.underlying392 ty_308.2 rfl hlt) ?_
   refine W.store tab_ok rfl Upd.here rfl rfl rfl rfl rfl (trow_next hlt) (aG ?_)
   repeat (first | refine gx ?_ | refine gN fun _ => ?_ | refine gB fun _ => ?_ | fail)
   refine aR (o := ⟨256 - (i + 1), by omega, i + 1, by omega, rfl, rfl, rfl⟩)
 ·
  obtain rfl : i = 256 := by omega
  refine aF ?_
  refine aV (OpVal.loadN ty_392.1 ty_392.2 rfl (at_own 0 rfl) (by rw [← l256]; exact sgAll _)) ?_
  refine W.store tab_ok rfl (Upd.there Upd.here) rfl rfl rfl l256 trow_one (spAll (by rw [trow_len (i := 0) (by decide)]; exact l256)) (aG ?_)
  refine W.ret (fin _ _ (FinOk.first 0 (ResOk.cellN (us := trow 256) ty_392.1 ty_392.2 rfl (at_own 1 rfl) (by rw [← l256]; exact sgAll _) .nil) rfl ?_))
  exact ⟨rfl, rfl⟩
def crcI (bs : List Int) : Nat := crcNat (bs.map Int.toNat)
theorem nats_ok {bs : List Int} (h : u8ok bs) : ∀ c ∈ bs.map Int.toNat, c < 256 := fun c hc => by
 obtain ⟨x, hx, rfl⟩ := List.mem_map.1 hc
 have := h x hx
 omega
def crcAt (bs : List Int) (j : Nat) : Nat := crcFrom 4294967295 ((bs.take j).map Int.toNat)
theorem crcAt_lt {bs : List Int} (h : u8ok bs) (j : Nat) : crcAt bs j < 2 ^ 32 := crcFrom_lt (by decide) (nats_ok fun x hx => h x (List.mem_of_mem_take hx))
theorem crcAt_next {bs : List Int} {j : Nat} (hj : j < bs.length) : crcAt bs (j + 1) = csteps 8 (crcAt bs j ^^^ bs[j].toNat) := by
 unfold crcAt
 rw [List.take_add_one, List.getElem?_eq_getElem hj, Option.toList_some, List.map_append, crcFrom_append]
 rfl
theorem crcAt_all (bs : List Int) : crcI bs = 4294967295 - crcAt bs bs.length := by unfold crcI crcNat crcAt; rw [List.take_length]
theorem More_spec (bs : List Int) (hu : u8ok bs) (a : Option Addr) (cap : Nat) (ro : HL) (hro : RoSl 1 (u8s bs) a bs.length ro) (hl : bs.length ≤ 1000000) :
  Ctr Tryz.prog 249 [.int .u32 0, .slice a bs.length cap] [] ro (fun v L' => v = .int .u32 (crcI bs : Int) ∧ L' = []) := by
 have hnew : ∀ {n : Nat} {R : HL} {cx : Cx} {ty : Nat} {ρ : Env} {L : List HL}, NewOf Tryz.prog n R cx (.alloc 392) ty ρ L (.cells (trow 0).toArray 392 (0, 0)) (fun b => .pointer (some ⟨b, 0, none⟩)) := NewOf.alloc trow_zero rfl
 have l256 := trow_len (i := 256) (Nat.le_refl _)
 refine Ctr.enter (n := 29) [.tmp 4] [(0, _), (1, _)] Tryz.func249 rfl rfl rfl (lb rfl) Tryz.call249 ⟨rfl, rfl, trivial⟩ ?_
 intro cx fin fin0
 refine aG ?_
 refine aC (o := table_spec) (h := ?_)
 rintro _ _ ⟨rfl, rfl⟩
 refine aG ?_
 refine aW (hnew) ?_
 intro _
 refine aG ?_
 rename_i b5
 refine aG ?_
 refine W.store tab_ok rfl Upd.here rfl rfl rfl l256 trow_one (spAll (by rw [trow_len (i := 0) (by decide)]; exact l256)) (aG ?_)
 refine aV (OpVal.not32 (a := 0) rfl (by decide)) ?_
 refine aLp (fun k ρ1 L1 => ∃ j : Nat, j ≤ bs.length ∧ k = bs.length - j ∧ ρ1 = [(13, .int .i64 (j : Int)), (12, .int .i64 (bs.length : Int)), (11, .slice a bs.length cap), (5, .pointer (some ⟨b5, 0, none⟩)), (0, .int .u32 (crcAt bs j : Int))] ∧ L1 = [[(b5, .cells (trow 256).toArray 392 (0, 0))]]) (o := ⟨0, Nat.zero_le _, rfl, rfl, rfl⟩) (h := ?_)
 rintro k ρ1 L1 ⟨j, hj, rfl, rfl, rfl⟩
 refine aG ?_
 by_cases hlt : j < bs.length
 ·
  have hz : (j : Int) < (bs.length : Int) := by omega
  have hb := crcAt_lt hu j
  have hnx := crcAt_next hlt
  have huj := hu _ (List.getElem_mem hlt)
  obtain ⟨bx, ox, lx, ex, frx, rfl, rfl, -, hld⟩ := RoSl.at (f := fun x : Int => [Value.int .u8 x]) (m := 1) (fun _ => rfl) hro hlt
  have l0 : lx[ox + j * 1]? = some (.int .u8 bs[j]) := hld 0 (by decide)
  generalize hcj : bs[j] = c at *
  obtain ⟨c, rfl⟩ : ∃ d : Nat, c = (d : Int) := ⟨c.toNat, by omega⟩
  have hcb := crc_byte (crcAt bs j) c (by omega)
  rw [Int.toNat_natCast] at hnx
  rw [← hnx] at hcb
  generalize crcAt bs j = x at *
  have hxc : (x % 256) ^^^ c < 256 := Nat.xor_lt_two_pow (n := 8) (Nat.mod_lt _ (by decide)) (by omega)
  repeat (first | refine gh hz ?_ | refine gN fun _ => ?_ | refine gB fun _ => ?_ | fail)
  refine aV (OpVal.ixI tab_ok rfl rfl rfl rfl rfl hlt) ?_
  refine aV (OpVal.load tab_ok rfl (show At _ _ bx (.cells lx.toArray ex frx) from .inr (by simp)) l0) ?_
  refine aV (OpVal.shrN (a := x) (c := 8) rfl rfl) ?_
  refine aV (OpVal.conv tab_ok rfl rfl rfl (u8mod x)) ?_
  refine aV (OpVal.bitsN (a := x % 256) (b := c) (r := (x % 256) ^^^ c) rfl rfl rfl rfl (Nat.mod_lt _ (by decide)) (show c < 256 by omega) (u8n hxc).symm (.inl ⟨rfl, rfl⟩)) ?_
  refine aV (OpVal.indexAr (j := (x % 256) ^^^ c) rfl rfl Tryz.underlying392 ty_308.2 rfl hxc) ?_
  refine aV (OpVal.load1 ty_308.1 rfl (at_own 0 rfl) (trow_at hxc)) ?_
  refine aV (OpVal.xor32 (a := x / 2 ^ 8) (b := crow ((x % 256) ^^^ c)) rfl rfl (by omega) (csteps_lt 8 (by omega))) ?_
  rw [show x / 2 ^ 8 ^^^ crow (x % 256 ^^^ c) = crcAt bs (j + 1) from hcb.symm]
  repeat (first | refine gh hz ?_ | refine gN fun _ => ?_ | refine gB fun _ => ?_ | fail)
  refine aR (o := ⟨bs.length - (j + 1), by omega, j + 1, by omega, rfl, rfl, rfl⟩)
 ·
  obtain rfl : j = bs.length := by omega
  repeat (first | refine gx ?_ | refine gN fun _ => ?_ | refine gB fun _ => ?_ | fail)
  refine aV (OpVal.not32 (a := crcAt bs bs.length) rfl (crcAt_lt hu _)) ?_
  rw [xor_all (crcAt_lt hu _), ← crcAt_all]
  repeat (first | refine gx ?_ | refine gN fun _ => ?_ | refine gB fun _ => ?_ | fail)
  refine W.ret (fin _ _ (FinOk.mk' ([]) (.tmp rfl .nil) (by repeat (first | exact Sel.nil | (apply Sel.cons; (repeat (first | exact Pick.here | apply Pick.there))))) rfl ?_))
  exact ⟨rfl, rfl⟩
end Go.Proofs.YtfpghdcjdnifcaaGreat
namespace Go.Proofs.YtfpghdcjdnifcaaGreat
open Go Go.Sl Go.IntWalk
set_option maxHeartbeats 4000000
set_option maxRecDepth 20000
set_option linter.unusedVariables false
def chk (x : Nat) : Nat → List Int
 | 0 => []
 | k + 1 => chk x k ++ [((x / 256 ^ k % 256 : Nat) : Int)]
theorem chk_len (x : Nat) : ∀ k, (chk x k).length = k
 | 0 => rfl
 | k + 1 => by simp [chk, chk_len x k]
theorem chk_ok (x : Nat) : ∀ k, u8ok (chk x k)
 | 0 => fun b hb => by cases hb
 | k + 1 => fun b hb => by
  rcases List.mem_append.1 hb with h | h
  · exact chk_ok x k b h
  · rw [List.mem_singleton.1 h]; omega
def sealB (bs : List Int) : List Int := bs ++ chk (crcI bs) 4
theorem sealB_len (bs : List Int) : (sealB bs).length = bs.length + 4 := by simp [sealB, chk_len]
theorem sealB_ok {bs : List Int} (h : u8ok bs) : u8ok (sealB bs) := fun b hb => by
 rcases List.mem_append.1 hb with h1 | h1
 · exact h b h1
 · exact chk_ok _ _ b h1
theorem CSum_spec (bs : List Int) (hu : u8ok bs) (a : Option Addr) (cap : Nat) (ro : HL) (hro : RoSl 1 (u8s bs) a bs.length ro) (hl : bs.length ≤ 1000000) :
  Ctr Tryz.prog 208 [.slice a bs.length cap] [] ro (fun v L' => v = .int .u32 (crcI bs : Int) ∧ L' = []) := by
 have hM := More_spec bs hu a cap ro hro hl
 refine Ctr.enter (n := 5) [.tmp 2] [(0, _)] Tryz.func208 rfl rfl rfl (lb rfl) Tryz.call208 ⟨rfl, trivial⟩ ?_
 intro cx fin fin0
 refine aG ?_
 refine aC (o := hM) (h := ?_)
 rintro _ _ ⟨rfl, rfl⟩
 refine aG ?_
 refine W.ret (fin _ _ (FinOk.first 0 (.tmp rfl .nil) rfl ?_))
 exact ⟨rfl, rfl⟩
theorem crcI_lt {bs : List Int} (h : u8ok bs) : crcI bs < 2 ^ 32 := by rw [crcAt_all]; omega
theorem Put_spec (bs : List Int) (hu : u8ok bs) (a : Option Addr) (cap : Nat) (ro : HL) (hro : RoSl 1 (u8s bs) a bs.length ro) (hl : bs.length ≤ 100000) :
  Ctr Tryz.prog 140 [.slice a bs.length cap] [] ro (fun v L' => ∃ a' cap' H, v = .slice a' (sealB bs).length cap' ∧ L' = [H] ∧ Own 1 5 (u8s (sealB bs)) a' (sealB bs).length cap' H) := by
 have hS := CSum_spec bs hu a cap ro hro (by omega)
 have hC := BClone_spec bs (by omega) a cap ro hro
 have hlt := crcI_lt hu
 unfold sealB
 generalize crcI bs = x at *
 refine Ctr.enter (n := 20) [.tmp 2] [(0, _)] Tryz.func140 rfl rfl rfl (lb rfl) Tryz.call140 ⟨rfl, trivial⟩ ?_
 intro cx fin fin0
 refine aG ?_
 refine aC (o := hS) (h := ?_)
 rintro _ _ ⟨rfl, rfl⟩
 refine aG ?_
 refine aC (o := hC) (h := ?_)
 rintro _ _ ⟨a1, c1, H1, rfl, rfl, how⟩
 refine aG ?_
 refine aLp (fun k ρ1 L1 => ∃ (j y : Nat) (a1 : Option Addr) (c1 : Nat) (H1 : HL), j ≤ 4 ∧ k = 4 - j ∧ y = x / 256 ^ j ∧ Own 1 5 (u8s (bs ++ chk x j)) a1 (bs.length + j) c1 H1 ∧ ρ1 = [(9, .int .i64 (j : Int)), (4, .slice a1 (bs.length + j) c1), (3, .int .u32 (y : Int))] ∧ L1 = [H1]) (o := ⟨0, x, a1, c1, H1, by decide, rfl, by simp, by simpa [chk] using how, rfl, rfl⟩) (h := ?_)
 rintro k ρ1 L1 ⟨j, y, a1, c1, H1, hj, rfl, rfl, how, rfl, rfl⟩
 refine aG ?_
 by_cases hlt2 : j < 4
 ·
  have hz : (j : Int) < 4 := by omega
  repeat (first | refine gh hz ?_ | refine gN fun _ => ?_ | refine gB fun _ => ?_ | fail)
  refine aV (OpVal.conv tab_ok rfl rfl rfl (u8mod (x / 256 ^ j))) ?_
  refine aSl (ps := [_]) ?_
  intro bt
  refine aG ?_
  refine aAp (how) ?_
  rintro _ _ ⟨_, _, _, rfl, rfl, ho⟩
  refine aG ?_
  refine aV (OpVal.shrN (a := x / 256 ^ j) (c := 8) rfl rfl) ?_
  have e1 : x / 256 ^ j / 2 ^ 8 = x / 256 ^ (j + 1) := by rw [Nat.div_div_eq_div_mul, Nat.pow_succ 256 j]
  rw [e1]
  have e2 : u8s (bs ++ chk x j) ++ [.int .u8 ((x / 256 ^ j % 256 : Nat) : Int)] = u8s (bs ++ chk x (j + 1)) := by
   rw [show chk x (j + 1) = chk x j ++ [((x / 256 ^ j % 256 : Nat) : Int)] from rfl, ← List.append_assoc, u8s_append (bs ++ chk x j)]
   rfl
  rw [e2] at ho
  repeat (first | refine gh hz ?_ | refine gN fun _ => ?_ | refine gB fun _ => ?_ | fail)
  refine aR (o := ⟨4 - (j + 1), by omega, j + 1, _, _, _, _, by omega, rfl, rfl, ho, rfl, rfl⟩)
 ·
  obtain rfl : j = 4 := by omega
  repeat (first | refine gx ?_ | refine gN fun _ => ?_ | refine gB fun _ => ?_ | fail)
  refine W.ret (fin _ _ (FinOk.first 1 (.tmp rfl .nil) rfl ?_))
  exact ⟨_, _, _, by rw [List.length_append, chk_len]; rfl, rfl, by rw [List.length_append, chk_len]; exact how⟩
def cOpen (c : List Int) : List Int × Int := if c.length ≠ 20 then ([], 2) else if sealB (c.take 16) = c then (c.take 16, 0) else ([], 9)
end Go.Proofs.YtfpghdcjdnifcaaGreat
namespace Go.Proofs
open Go.Shelf
end Go.Proofs
namespace Go.Proofs.YtfpghdcjdnifcaaGreat
open Go Go.Sl Go.IntWalk Go.Sort
set_option linter.unusedVariables false
def sortI (zs : List Int) : List Int := zs.mergeSort fun x y => decide (x ≤ y)
end Go.Proofs.YtfpghdcjdnifcaaGreat
namespace Go.Proofs.YtfpghdcjdnifcaaGreat
open Go Go.Sl Go.IntWalk
set_option maxHeartbeats 4000000
set_option maxRecDepth 20000
set_option linter.unusedVariables false
structure Dv where
 lasts : List (List Int)
 later : List (List Int)
 head : List Int
def zcell : List Int := sealB (List.replicate 16 0)
theorem z16_ok : u8ok (List.replicate 16 0) := fun b hb => by rw [List.eq_of_mem_replicate hb]; omega
theorem zcell_len : zcell.length = 20 := by unfold zcell; rw [sealB_len]; rfl
theorem zcell_ok : u8ok zcell := sealB_ok z16_ok
structure Dv.Ok (d : Dv) : Prop where
 len : d.later.length = d.lasts.length
 n : 1 ≤ d.lasts.length ∧ d.lasts.length ≤ 1024
 lu : ∀ c ∈ d.lasts, c.length = 20 ∧ u8ok c
 tu : ∀ c ∈ d.later, c = [] ∨ (c.length = 20 ∧ u8ok c)
 hu : u8ok d.head
 hl : d.head.length ≤ 100000
def Dv.last (d : Dv) (i : Int) : List Int := d.lasts.getD i.toNat []
def Dv.late (d : Dv) (i : Int) : List Int := d.later.getD i.toNat []
def Dv.in_ (d : Dv) (i : Int) : Prop := 0 ≤ i ∧ i < d.lasts.length
instance (d : Dv) (i : Int) : Decidable (d.in_ i) := by unfold Dv.in_; infer_instance
structure Cl where
 a : Option Addr
 cap : Nat
 xs : List Int
def Cl.v (c : Cl) : Value := .slice c.a c.xs.length c.cap
def ClIn (D : HL) (c : Cl) : Prop := c.xs.length ≤ c.cap ∧ ∃ r, RoSl 1 (u8s c.xs) c.a c.xs.length r ∧ ∀ q ∈ r, q ∈ D
theorem ClIn.mono {D D' : HL} {c : Cl} (h : ClIn D c) (hs : ∀ q ∈ D, q ∈ D') : ClIn D' c := by
 obtain ⟨h1, r, h2, h3⟩ := h
 exact ⟨h1, r, h2, fun q hq => hs q (h3 q hq)⟩
structure Reads (d : Dv) (tl tt : List (Int × Cl)) (D : HL) : Prop where
 lasts : ∀ i, d.in_ i → d.last i = (match mget tl i with | some c => c.xs | none => zcell)
 later : ∀ i, d.in_ i → d.late i = (match mget tt i with | some c => c.xs | none => [])
 keys : ∀ i c, mget tt i = some c → d.in_ i ∧ c.xs.length = 20
 nd : (tt.map (·.1)).Nodup
 ndl : (tl.map (·.1)).Nodup
 inl : ∀ i c, mget tl i = some c → ClIn D c
 int : ∀ i c, mget tt i = some c → ClIn D c
def DevAt (d : Dv) (b : Nat) (H : HL) : Prop := ∃ bl bt ah ch tl tt Hl Ht D,
 H = [(b, Obj.cells (List.toArray [.int .i64 d.lasts.length, .map (some bl), .map (some bt), .slice ah d.head.length ch]) 236 (0, 0))] ++ (Hl ++ (Ht ++ D)) ∧
 IsMp .i64 Cl.v tl bl Hl ∧ IsMq .i64 Cl.v tt bt Ht ∧ Reads d tl tt D ∧ ClIn D ⟨ah, ch, d.head⟩
theorem DevAt.head {d : Dv} {b : Nat} {H : HL} (h : DevAt d b H) : ∃ bl bt ah ch, (b, Obj.cells (List.toArray [.int .i64 d.lasts.length, .map (some bl), .map (some bt), .slice ah d.head.length ch]) 236 (0, 0)) ∈ H := by
 obtain ⟨bl, bt, ah, ch, tl, tt, Hl, Ht, D, rfl, -⟩ := h
 exact ⟨bl, bt, ah, ch, List.mem_append_left _ (List.mem_singleton.2 rfl)⟩
theorem getD_mem {l : List (List Int)} {i : Int} (h : 0 ≤ i ∧ i < l.length) : l.getD i.toNat [] ∈ l := by
 rw [List.getD_eq_getElem?_getD, List.getElem?_eq_getElem (show i.toNat < l.length by omega), Option.getD_some]
 exact List.getElem_mem _
theorem Dv.Ok.last {d : Dv} (hd : d.Ok) {i : Int} (hi : d.in_ i) : (d.last i).length = 20 ∧ u8ok (d.last i) := hd.lu _ (getD_mem hi)
theorem Dv.Ok.late {d : Dv} (hd : d.Ok) {i : Int} (hi : d.in_ i) : d.late i = [] ∨ ((d.late i).length = 20 ∧ u8ok (d.late i)) := hd.tu _ (getD_mem (by rw [hd.len]; exact hi))
def Dv.read (d : Dv) (i : Int) : List Int × Int := if d.in_ i then (if d.late i = [] then cOpen (d.last i) else cOpen (d.late i)) else ([], 4)
end Go.Proofs.YtfpghdcjdnifcaaGreat
namespace Go.Proofs.YtfpghdcjdnifcaaGreat
open Go Go.Sl Go.IntWalk
set_option maxHeartbeats 4000000
set_option maxRecDepth 20000
set_option linter.unusedVariables false
theorem getD_set {l : List (List Int)} {i j : Int} {x : List Int} (hi : 0 ≤ i ∧ i < l.length) (hj : 0 ≤ j) : (l.set i.toNat x).getD j.toNat [] = if i = j then x else l.getD j.toNat [] := by
 rw [List.getD_eq_getElem?_getD, List.getElem?_set]
 by_cases h : i = j
 ·
  subst h
  rw [if_pos rfl, if_pos rfl, if_pos (by omega)]
  rfl
 · rw [if_neg h, if_neg (by omega), List.getD_eq_getElem?_getD]
def Dv.setLater (d : Dv) (i : Int) (c : List Int) : Dv := ⟨d.lasts, d.later.set i.toNat c, d.head⟩
def Dv.setLast (d : Dv) (i : Int) (c : List Int) : Dv := ⟨d.lasts.set i.toNat c, d.later, d.head⟩
theorem setLater_in {d : Dv} {i j : Int} {c : List Int} : (d.setLater i c).in_ j ↔ d.in_ j := Iff.rfl
theorem setLast_in {d : Dv} {i j : Int} {c : List Int} : (d.setLast i c).in_ j ↔ d.in_ j := by unfold Dv.in_ Dv.setLast; simp
theorem Dv.Ok.setLater {d : Dv} (hd : d.Ok) {i : Int} {c : List Int} (hc : c = [] ∨ (c.length = 20 ∧ u8ok c)) : (d.setLater i c).Ok :=
 ⟨by simp [Dv.setLater, hd.len], hd.n, hd.lu, fun x hx => by
  rcases List.mem_or_eq_of_mem_set hx with h | rfl
  · exact hd.tu x h
  · exact hc, hd.hu, hd.hl⟩
theorem Dv.Ok.setLast {d : Dv} (hd : d.Ok) {i : Int} {c : List Int} (hc : c.length = 20 ∧ u8ok c) : (d.setLast i c).Ok :=
 ⟨by simp [Dv.setLast, hd.len], by simpa [Dv.setLast] using hd.n, fun x hx => by
  rcases List.mem_or_eq_of_mem_set hx with h | rfl
  · exact hd.lu x h
  · exact hc, hd.tu, hd.hu, hd.hl⟩
theorem Reads.mono {d : Dv} {tl tt : List (Int × Cl)} {D D' : HL} (h : Reads d tl tt D) (hs : ∀ q ∈ D, q ∈ D') : Reads d tl tt D' :=
 ⟨h.lasts, h.later, h.keys, h.nd, h.ndl, fun i c hc => (h.inl i c hc).mono hs, fun i c hc => (h.int i c hc).mono hs⟩
theorem Reads.put {d : Dv} {tl tt : List (Int × Cl)} {D : HL} (h : Reads d tl tt D) (hd : d.Ok) {i : Int} (hi : d.in_ i) {c : Cl} (h20 : c.xs.length = 20) (hc : ClIn D c) : Reads (d.setLater i c.xs) tl (mput tt i c) D := by
 refine ⟨h.lasts, fun j hj => ?_, fun j e he => ?_, mput_nd h.nd i c, h.ndl, h.inl, fun j e he => ?_⟩
 ·
  rw [mget_mput]
  have hi' : 0 ≤ i ∧ i < d.later.length := by rw [hd.len]; exact hi
  have : (d.setLater i c.xs).late j = if i = j then c.xs else d.late j := getD_set hi' hj.1
  rw [this]
  by_cases hij : i = j
  · rw [if_pos hij, if_pos hij]
  · rw [if_neg hij, if_neg hij]; exact h.later j hj
 ·
  rw [mget_mput] at he
  split at he
  · rename_i hij; cases he; subst hij; exact ⟨hi, h20⟩
  · exact h.keys j e he
 ·
  rw [mget_mput] at he
  split at he
  · cases he; exact hc
  · exact h.int j e he
theorem _root_.Go.Sl.W.split4 {P : Program} {n : Nat} {R : HL} {cx : Cx} {k : List Kont} {ρ : Env} {L : List HL} {A B C D : HL} {M : List HL} (h : L = (A ++ (B ++ (C ++ D))) :: M) (hk : W P n R cx k ρ (A :: B :: C :: D :: M)) : W P n R cx k ρ L := by
 subst h
 exact W.regroup (by simp) hk
def Dv.laterIn (d : Dv) (from_ to : Int) : List Int := ((List.range d.lasts.length).map Int.ofNat).filter fun i => decide (from_ ≤ i ∧ i < to ∧ d.late i ≠ [])
theorem range_sorted (n : Nat) : ((List.range n).map Int.ofNat).Pairwise (· ≤ ·) := by
 rw [List.pairwise_map]
 exact (List.pairwise_lt_range (n := n)).imp fun {a b} h => by show (a : Int) ≤ (b : Int); omega
theorem range_nodup (n : Nat) : ((List.range n).map Int.ofNat).Nodup := by
 rw [List.Nodup, List.pairwise_map]
 exact (List.pairwise_lt_range (n := n)).imp fun {a b} h => by show (a : Int) ≠ (b : Int); omega
theorem mget_key {m : List (Int × Cl)} {k : Int} : k ∈ m.map (·.1) ↔ ∃ c, mget m k = some c := by
 induction m with
 | nil => simp [mget]
 | cons p r ih =>
  obtain ⟨a, v⟩ := p
  simp only [List.map_cons, List.mem_cons, mget]
  by_cases h : a = k
  · rw [if_pos h]; simp [h]
  ·
   rw [if_neg h, ← ih]
   simp [Ne.symm h]
theorem Reads.sorted {d : Dv} {tl tt : List (Int × Cl)} {D : HL} (h : Reads d tl tt D) (from_ to : Int) {zs : List Int} (hp : zs.Perm ((tt.map (·.1)).filter fun k => decide (from_ ≤ k ∧ k < to))) : sortI zs = d.laterIn from_ to := by
 have h1 : (sortI zs).Pairwise (· ≤ ·) := by
  have := List.pairwise_mergeSort (le := fun x y : Int => decide (x ≤ y)) (by intro a b c h1 h2; simp at *; omega) (by intro a b; simp; omega) zs
  exact this.imp fun h => by simpa using h
 have h2 : (d.laterIn from_ to).Pairwise (· ≤ ·) := (range_sorted _).sublist List.filter_sublist
 have h3 : (sortI zs).Perm zs := List.mergeSort_perm _ _
 refine List.Perm.eq_of_pairwise (le := (· ≤ ·)) (fun a b _ _ h1 h2 => Int.le_antisymm h1 h2) h1 h2 ((h3.trans hp).trans ?_)
 unfold Dv.laterIn
 rw [List.perm_ext_iff_of_nodup (h.nd.sublist List.filter_sublist) ((range_nodup _).sublist List.filter_sublist)]
 intro k
 rw [List.mem_filter, List.mem_filter, mget_key, List.mem_map]
 simp only [List.mem_range, decide_eq_true_eq]
 constructor
 ·
  rintro ⟨⟨c, hc⟩, hf, ht⟩
  obtain ⟨hi, h20⟩ := h.keys k c hc
  refine ⟨⟨k.toNat, by unfold Dv.in_ at hi; omega, by unfold Dv.in_ at hi; show ((k.toNat : Nat) : Int) = k; omega⟩, hf, ht, ?_⟩
  rw [h.later k hi, hc]
  intro h0
  simp only at h0
  rw [h0] at h20
  simp at h20
 ·
  rintro ⟨⟨j, hj, rfl⟩, hf, ht, hne⟩
  have hi : d.in_ (Int.ofNat j) := ⟨by show (0 : Int) ≤ (j : Int); omega, by show (j : Int) < _; omega⟩
  rw [h.later _ hi] at hne
  refine ⟨?_, hf, ht⟩
  cases hg : mget tt (Int.ofNat j) with
  | none => rw [hg] at hne; exact absurd rfl hne
  | some c => exact ⟨c, rfl⟩
end Go.Proofs.YtfpghdcjdnifcaaGreat
namespace Go.Proofs.YtfpghdcjdnifcaaGreat
open Go Go.Sl Go.IntWalk
set_option maxHeartbeats 4000000
set_option maxRecDepth 20000
set_option linter.unusedVariables false
end Go.Proofs.YtfpghdcjdnifcaaGreat
namespace Go.Proofs.YtfpghdcjdnifcaaGreat
open Go Go.Sl Go.IntWalk
set_option maxHeartbeats 8000000
set_option maxRecDepth 20000
set_option linter.unusedVariables false
def Dv.settle1 (d : Dv) (i : Int) (k : Bool) : Dv := (if k = true then d.setLast i (d.late i) else d).setLater i []
theorem settle1_in {d : Dv} {i j : Int} {k : Bool} : (d.settle1 i k).in_ j ↔ d.in_ j := by
 unfold Dv.settle1
 split
 · exact setLater_in.trans setLast_in
 · exact setLater_in
theorem settle1_late {d : Dv} (hd : d.Ok) {i j : Int} {k : Bool} (hi : d.in_ i) (hj : d.in_ j) (hne : i ≠ j) : (d.settle1 i k).late j = d.late j := by
 have hi' : 0 ≤ i ∧ i < d.later.length := by rw [hd.len]; exact hi
 unfold Dv.settle1
 split
 ·
  have : ((d.setLast i (d.late i)).setLater i []).late j = if i = j then [] else (d.setLast i (d.late i)).late j := getD_set hi' hj.1
  rw [this, if_neg hne]
  rfl
 ·
  have : (d.setLater i []).late j = if i = j then [] else d.late j := getD_set hi' hj.1
  rw [this, if_neg hne]
structure Still (d : Dv) (ats : List Int) : Prop where
 nd : ats.Nodup
 all : ∀ i ∈ ats, d.in_ i ∧ d.late i ≠ []
theorem Still.step {d : Dv} (hd : d.Ok) {i : Int} {l : List Int} (h : Still d (i :: l)) (k : Bool) : Still (d.settle1 i k) l := by
 obtain ⟨h1, h2⟩ := h
 rw [List.nodup_cons] at h1
 refine ⟨h1.2, fun j hj => ?_⟩
 obtain ⟨g1, g2⟩ := h2 j (List.mem_cons_of_mem _ hj)
 have hi := (h2 i List.mem_cons_self).1
 have hne : i ≠ j := by rintro rfl; exact h1.1 hj
 exact ⟨settle1_in.2 g1, by rw [settle1_late hd hi g1 hne]; exact g2⟩
end Go.Proofs.YtfpghdcjdnifcaaGreat
namespace Go.Proofs.YtfpghdcjdnifcaaGreat
open Go Go.Sl Go.IntWalk
set_option maxHeartbeats 8000000
set_option maxRecDepth 20000
set_option linter.unusedVariables false
def bls (l : List Bool) : List Value := l.flatMap fun x => [.bool x]
theorem bls_len (l : List Bool) : (bls l).length = l.length := by
 unfold bls
 induction l with
 | nil => rfl
 | cons x l ih => simp [ih]
theorem bls_one (l : List Bool) : allOne (bls l) = true := allOne_of fun v hv => by
 obtain ⟨x, -, hx⟩ := List.mem_flatMap.1 hv
 rw [List.mem_singleton.1 hx]
 rfl
def StAt (bs : List Bool) (b : Nat) (H : HL) : Prop := ∃ (l : List Bool) (at_ : Nat) (a : Option Addr) (cap : Nat) (Hb : HL), at_ ≤ l.length ∧ l.drop at_ = bs ∧ l.length ≤ 140737488351232 ∧ l.length ≤ cap ∧
 H = [(b, Obj.cells (List.toArray [.slice a l.length cap, .int .i64 (at_ : Int)]) 322 (0, 0))] ++ Hb ∧ RoSl 1 (bls l) a l.length Hb
theorem SNew_spec (l : List Bool) (hl : l.length ≤ 140737488351232) (a : Option Addr) (cap : Nat) (ro : HL) (hro : RoSl 1 (bls l) a l.length ro) :
  Ctr Tryz.prog 148 [.slice a l.length cap] [] ro (fun v L' => ∃ b H, v = .pointer (some ⟨b, 0, none⟩) ∧ L' = [H] ∧ StAt l b H) := by
 have hrep : ∀ n, repL n [Value.bool false] = List.replicate n (Value.bool false) := fun n => by
  induction n with
  | zero => rfl
  | succ n ih => rw [List.replicate_succ, ← ih]; rfl
 have hAdd : ∀ b, Ctr Tryz.prog 210 [.pointer (some ⟨b, 0, none⟩), .slice a l.length cap] [[(b, .cells #[.slice none 0 0, .int .i64 0] 322 (0, 0))]] ro (fun _ L' => ∃ H, L' = [H] ∧ StAt l b H) := fun b => by
  refine Ctr.enter (n := 33) [] [(0, _), (1, _)] Tryz.func210 rfl rfl rfl (lb rfl) Tryz.call210 ⟨rfl, rfl, trivial⟩ ?_
  intro cx fin fin0
  refine aG ?_
  repeat (first | refine gx ?_ | refine gN fun _ => ?_ | refine gB fun _ => ?_ | fail)
  have e1 : ((0 : Nat) : Int) + (l.length : Int) = (l.length : Int) := by omega
  refine aW (NewOf.mks (bytes := 1) (len := l.length) (cap := l.length) tab_ok rfl rfl rfl rfl rfl rfl rfl e1 e1 (Nat.le_refl _) (by omega) (by omega)) ?_
  intro b4
  rw [hrep]
  refine aG ?_
  repeat (first | refine gx ?_ | refine gN fun _ => ?_ | refine gB fun _ => ?_ | fail)
  refine aPr (copyTo (q := 0) (cs := bls []) tab_ok rfl rfl rfl rfl ⟨rfl, .inl ⟨rfl, rfl⟩⟩ (fun p hp => by cases hp) (List.mem_append_left _ (List.mem_singleton.2 rfl)) rfl (Nat.zero_min _) (by simp)) ?_
  rintro _ _ ⟨rfl, rfl⟩
  refine aG ?_
  have c0 : (List.replicate l.length (Value.bool false)).take 0 ++ (bls []).take (0 * 1) ++ (List.replicate l.length (Value.bool false)).drop (0 + 0 * 1) = List.replicate l.length (Value.bool false) := by simp
  rw [c0]
  repeat (first | refine gx ?_ | refine gN fun _ => ?_ | refine gB fun _ => ?_ | fail)
  refine aV (OpVal.pieceG (l := 0) (h := l.length) (c := l.length) tab_ok rfl rfl rfl ⟨_, rfl⟩ ⟨rfl, rfl⟩ rfl (by omega) (by omega) (by omega)) ?_
  have hoff : (if l.length = 0 then 0 else 0 + 0 * 1) = 0 := by split <;> rfl
  rw [hoff]
  refine aPr (copyTo (q := l.length) (cs := bls l) tab_ok rfl rfl rfl rfl hro (fun q hq => .inr hq) (List.mem_append_left _ (List.mem_singleton.2 rfl)) (bls_one l) (by omega) (by simp)) ?_
  rintro _ _ ⟨rfl, rfl⟩
  refine aG ?_
  have c1 : (List.replicate l.length (Value.bool false)).take 0 ++ (bls l).take (l.length * 1) ++ (List.replicate l.length (Value.bool false)).drop (0 + l.length * 1) = bls l := by
   rw [Nat.mul_one, ← bls_len l, List.take_length]
   simp [bls_len]
  rw [c1]
  repeat (first | refine gx ?_ | refine gN fun _ => ?_ | refine gB fun _ => ?_ | fail)
  refine W.groupV [1, 0] rfl ?_
  refine fin0 _ _ (FinOk.first 1 .nil rfl ?_)
  exact ⟨_, rfl, l, 0, _, _, _, Nat.zero_le _, rfl, hl, Nat.le_refl _, rfl, by rw [bls_len, Nat.mul_one], .inr ⟨b4, 0, bls l, _, _, rfl, rfl, by rw [bls_len]; omega, by rw [List.drop_zero, Nat.mul_one, ← bls_len l, List.take_length]⟩⟩
 refine Ctr.enter (n := 10) [.tmp 2] [(0, _)] Tryz.func148 rfl rfl rfl (lb rfl) Tryz.call148 ⟨rfl, trivial⟩ ?_
 intro cx fin fin0
 refine aG ?_
 refine aBu (ps := []) ?_
 repeat (first | refine gx ?_ | refine gN fun _ => ?_ | refine gB fun _ => ?_ | fail)
 rename_i b3
 refine aC (o := hAdd b3) (h := ?_)
 rintro _ _ ⟨H, rfl, hst⟩
 refine aG ?_
 repeat (first | refine gx ?_ | refine gN fun _ => ?_ | refine gB fun _ => ?_ | fail)
 refine W.ret (fin _ _ (FinOk.first 1 (.tmp rfl .nil) rfl ?_))
 exact ⟨_, _, rfl, rfl, hst⟩
def allB (_ : Unit) : Unit × Bool := ((), true)
end Go.Proofs.YtfpghdcjdnifcaaGreat
namespace Go.Proofs.YtfpghdcjdnifcaaGreat
open Go Go.Sl Go.IntWalk
set_option maxHeartbeats 8000000
set_option maxRecDepth 20000
set_option linter.unusedVariables false
def flipB (c : List Int) (p : Int) (by_ : Nat) : List Int := c.set p.toNat (((c.getD p.toNat 0).toNat ^^^ by_ : Nat) : Int)
def Dv.turn (d : Dv) (i place : Int) (by_ : Nat) : Dv × Int := if d.in_ i ∧ 0 ≤ place ∧ place < 20 then (d.setLast i (flipB (d.last i) place by_), 0) else (d, 4)
theorem DSetHead_spec (d : Dv) (hd : d.Ok) (b : Nat) (H : HL) (h : DevAt d b H) (bs : List Int) (hl : bs.length ≤ 100000) (a : Option Addr) (cap : Nat) (rb : HL) (hrb : RoSl 1 (u8s bs) a bs.length rb) :
  Ctr Tryz.prog 86 [.pointer (some ⟨b, 0, none⟩), .slice a bs.length cap] [H] rb (fun _ L' => ∃ H', L' = [H'] ∧ DevAt ⟨d.lasts, d.later, bs⟩ b H') := by
 have hC := BClone_spec bs (by omega) a cap rb hrb
 obtain ⟨bl, bt, ah, ch, tl, tt, Hl, Ht, D, rfl, hml, hmt, hr, hh⟩ := h
 refine Ctr.enter (n := 9) [] [(0, _), (1, _)] Tryz.func86 rfl rfl rfl (lb rfl) Tryz.call86 ⟨rfl, rfl, trivial⟩ ?_
 intro cx fin fin0
 refine aG ?_
 refine aC (o := hC) (h := ?_)
 rintro _ _ ⟨a2, c2, H2, rfl, rfl, ho⟩
 refine aG ?_
 refine W.order [1, 0] rfl ?_
 refine W.split4 rfl ?_
 refine aG ?_
 repeat (first | refine gx ?_ | refine gN fun _ => ?_ | refine gB fun _ => ?_ | fail)
 refine W.groupV [0, 0, 0, 1, 0] rfl ?_
 refine fin0 _ _ (FinOk.first 1 .nil rfl ?_)
 refine ⟨_, rfl, bl, bt, a2, c2, tl, tt, Hl, Ht, H2 ++ D, rfl, hml, hmt, ⟨hr.lasts, hr.later, hr.keys, hr.nd, hr.ndl, fun i c hc => (hr.inl i c hc).mono fun q hq => List.mem_append_right _ hq, fun i c hc => (hr.int i c hc).mono fun q hq => List.mem_append_right _ hq⟩, ?_, H2, Own.roSl ho, fun q hq => List.mem_append_left _ hq⟩
 show bs.length ≤ c2
 rcases ho.2 with ⟨_, h0, _⟩ | ⟨_, _, _, _, h0, _⟩ <;> omega
def Dv.new (n : Nat) : Dv := ⟨List.replicate n zcell, List.replicate n [], []⟩
theorem Dv.new_ok {n : Nat} (h1 : 1 ≤ n) (h2 : n ≤ 1024) : (Dv.new n).Ok :=
 ⟨by simp [Dv.new], by simpa [Dv.new] using ⟨h1, h2⟩, fun c hc => by rw [List.eq_of_mem_replicate hc]; exact ⟨zcell_len, zcell_ok⟩, fun c hc => .inl (List.eq_of_mem_replicate hc), (by intro b hb; cases hb), by show ([] : List Int).length ≤ 100000; decide⟩
theorem DNew_spec (n : Int) : Ctr Tryz.prog 85 [.int .i64 n] [] [] (fun v L' => (¬ (1 ≤ n ∧ n ≤ 1024) ∧ v = .tuple #[.pointer none, .int .i64 1] ∧ L' = []) ∨
  ((1 ≤ n ∧ n ≤ 1024) ∧ ∃ b H, v = .tuple #[.pointer (some ⟨b, 0, none⟩), .int .i64 0] ∧ L' = [H] ∧ DevAt (Dv.new n.toNat) b H)) := by
 by_cases h1 : n < 1
 ·
  refine Ctr.enter (n := 15) [.tmp 2, .tmp 3] [(0, _)] Tryz.func85 rfl rfl rfl (lb rfl) Tryz.call85 ⟨rfl, trivial⟩ ?_
  intro cx fin fin0
  refine aG ?_
  repeat (first | refine gh h1 ?_ | refine gN fun _ => ?_ | refine gB fun _ => ?_ | fail)
  refine W.ret (fin _ _ (FinOk.first 0 (.tmp rfl (.tmp rfl .nil)) rfl ?_))
  exact .inl ⟨by omega, rfl, rfl⟩
 ·
  by_cases h2 : n > 1024
  ·
   refine Ctr.enter (n := 15) [.tmp 2, .tmp 3] [(0, _)] Tryz.func85 rfl rfl rfl (lb rfl) Tryz.call85 ⟨rfl, trivial⟩ ?_
   intro cx fin fin0
   refine aG ?_
   repeat (first | refine gh (gc2 h1 h2) ?_ | refine gN fun _ => ?_ | refine gB fun _ => ?_ | fail)
   refine W.ret (fin _ _ (FinOk.first 0 (.tmp rfl (.tmp rfl .nil)) rfl ?_))
   exact .inl ⟨by omega, rfl, rfl⟩
  ·
   obtain ⟨k, rfl⟩ : ∃ k : Nat, n = (k : Int) := ⟨n.toNat, by omega⟩
   refine Ctr.enter (n := 15) [.tmp 2, .tmp 3] [(0, _)] Tryz.func85 rfl rfl rfl (lb rfl) Tryz.call85 ⟨rfl, trivial⟩ ?_
   intro cx fin fin0
   refine aG ?_
   repeat (first | refine gh (gc2 h1 h2) ?_ | refine gN fun _ => ?_ | refine gB fun _ => ?_ | fail)
   refine aW (NewOf.map) ?_
   intro _
   refine aG ?_
   rename_i bl
   refine aW (NewOf.map) ?_
   intro _
   refine aG ?_
   rename_i bt
   refine aBu (ps := [_, _, _]) ?_
   repeat (first | refine gx ?_ | refine gN fun _ => ?_ | refine gB fun _ => ?_ | fail)
   rename_i b
   refine W.groupV [0, 1, 0] rfl ?_
   refine W.nilChunk ?_
   refine W.groupV [1, 0] rfl ?_
   refine W.ret (fin _ _ (FinOk.first 1 (.tmp rfl (.tmp rfl .nil)) rfl ?_))
   refine .inr ⟨⟨by omega, by omega⟩, b, _, rfl, rfl, bl, bt, none, 0, [], [], [(bl, .map #[] 0)], [(bt, .map #[] 0)], [], ?_, ⟨#[], 0, rfl, rfl⟩, ⟨#[], 0, rfl, rfl, (by intro x hx; simp at hx), by simp⟩, ⟨fun i hi => ?_, fun i hi => ?_, (by intro i c hc; cases hc), by simp, by simp, (by intro i c hc; cases hc), (by intro i c hc; cases hc)⟩, Nat.le_refl _, [], ⟨rfl, .inl ⟨rfl, rfl⟩⟩, (by intro q hq; cases hq)⟩
   · simp [Dv.new]
   ·
    unfold Dv.in_ Dv.new at hi
    simp at hi
    unfold Dv.last Dv.new
    simp only [Int.toNat_natCast]
    rw [List.getD_eq_getElem?_getD, List.getElem?_replicate, if_pos (by omega)]
    rfl
   ·
    unfold Dv.in_ Dv.new at hi
    simp at hi
    unfold Dv.late Dv.new
    simp only [Int.toNat_natCast]
    rw [List.getD_eq_getElem?_getD, List.getElem?_replicate, if_pos (by omega)]
    rfl
end Go.Proofs.YtfpghdcjdnifcaaGreat
namespace Go.Proofs.YtfpghdcjdnifcaaGreat
open Go Go.Sl Go.IntWalk
set_option maxHeartbeats 2000000
set_option maxRecDepth 20000
def PtsAt : List Pt → List Nat → HL → Prop
 | [], bs, H => bs = [] ∧ H = []
 | p :: ps, bs, H => ∃ b bs' Hp H', bs = b :: bs' ∧ H = Hp ++ H' ∧ PtAt p b Hp ∧ PtsAt ps bs' H'
def ptrs (bs : List Nat) : List Value := bs.map fun b => .pointer (some ⟨b, 0, none⟩)
theorem PtsAt.len : ∀ {ps : List Pt} {bs : List Nat} {H : HL}, PtsAt ps bs H → bs.length = ps.length
 | [], bs, H, h => by obtain ⟨rfl, _⟩ := h; rfl
 | p :: ps, bs, H, h => by
  obtain ⟨b, bs', Hp, H', rfl, rfl, _, h2⟩ := h
  simp [h2.len]
theorem PtsAt.get : ∀ {ps : List Pt} {bs : List Nat} {H : HL} {i : Nat} (hi : i < ps.length), PtsAt ps bs H → ∃ b Hi, bs[i]? = some b ∧ PtAt ps[i] b Hi ∧ ∀ x ∈ Hi, x ∈ H
 | [], _, _, _, hi, _ => absurd hi (by simp)
 | p :: ps, bs, H, 0, hi, h => by
  obtain ⟨b, bs', Hp, H', rfl, rfl, h1, h2⟩ := h
  exact ⟨b, Hp, rfl, h1, fun x hx => by simp [hx]⟩
 | p :: ps, bs, H, i + 1, hi, h => by
  obtain ⟨b, bs', Hp, H', rfl, rfl, h1, h2⟩ := h
  obtain ⟨b2, Hi, g1, g2, g3⟩ := PtsAt.get (i := i) (by simpa using hi) h2
  exact ⟨b2, Hi, by simpa using g1, by simpa using g2, fun x hx => by simp [g3 x hx]⟩
theorem PtsAt.snoc : ∀ {ps : List Pt} {bs : List Nat} {H : HL} {p : Pt} {b : Nat} {Hp : HL}, PtsAt ps bs H → PtAt p b Hp → PtsAt (ps ++ [p]) (bs ++ [b]) (H ++ Hp)
 | [], bs, H, p, b, Hp, h, hp => by
  obtain ⟨rfl, rfl⟩ := h
  exact ⟨b, [], Hp, [], rfl, by simp, hp, rfl, rfl⟩
 | q :: ps, bs, H, p, b, Hp, h, hp => by
  obtain ⟨b2, bs', Hp', H', rfl, rfl, h1, h2⟩ := h
  exact ⟨b2, bs' ++ [b], Hp', H' ++ Hp, rfl, by simp, h1, h2.snoc hp⟩
def ArAt (ps : List Pt) (b : Nat) (H : HL) : Prop := ∃ bs bl l cap Hp, H = (b, .cells #[.slice (some ⟨bl, 0, none⟩) ps.length cap] 241 (0, 0)) :: (bl, .cells (List.toArray l) 173 (0, 0)) :: Hp ∧
 ps.length ≤ cap ∧ l.take ps.length = ptrs bs ∧ PtsAt ps bs Hp
theorem ptr_at {l : List Value} {n : Nat} {bs : List Nat} {i b : Nat} (h : l.take n = ptrs bs) (hi : i < n) (hb : bs[i]? = some b) : l[0 + i * 1]? = some (.pointer (some ⟨b, 0, none⟩)) := by
 have h1 := congrArg (fun l => l[i]?) h
 simp only [List.getElem?_take, if_pos hi, ptrs, List.getElem?_map, hb, Option.map_some] at h1
 simpa using h1
def lens (ps : List Pt) : List Nat := ps.map fun p => p.fs.length
def tot (g : Pt → Int) (ps : List Pt) : Int := ps.foldl (fun a p => a + g p) 0
theorem tot_next (g : Pt → Int) {ps : List Pt} {i : Nat} (hi : i < ps.length) : tot g (ps.take (i + 1)) = tot g (ps.take i) + g ps[i] := by
 unfold tot
 rw [List.take_add_one, List.foldl_append]
 simp [hi]
theorem tot_bound (g : Pt → Int) {ps : List Pt} (h : ∀ p ∈ ps, 0 ≤ g p ∧ g p ≤ 64) : 0 ≤ tot g ps ∧ tot g ps ≤ ps.length * 64 := by
 unfold tot
 have : ∀ (ps : List Pt) (a : Int), (∀ p ∈ ps, 0 ≤ g p ∧ g p ≤ 64) → a ≤ ps.foldl (fun a p => a + g p) a ∧ ps.foldl (fun a p => a + g p) a ≤ a + ps.length * 64 := by
  intro ps
  induction ps with
  | nil => intro a _; simp
  | cons p ps ih =>
   intro a h
   have h1 := h p (by simp)
   have h2 := ih (a + g p) (fun q hq => h q (by simp [hq]))
   simp only [List.foldl_cons, List.length_cons]
   omega
 have := this ps 0 h
 omega
theorem PLen_spec (p : Pt) (b : Nat) (H : HL) (hp : PtAt p b H) : Ctr Tryz.prog 209 [.pointer (some ⟨b, 0, none⟩)] [] H (fun v L' => v = .int .i64 (p.fs.length : Int) ∧ L' = []) := by
 obtain ⟨bf, bm, es, clock, rfl, hm⟩ := hp
 refine Ctr.enter (n := 8) [.tmp 2] [(0, _)] Tryz.func209 rfl rfl rfl (lb rfl) Tryz.call209 ⟨rfl, trivial⟩ ?_
 intro cx fin fin0
 refine aG ?_
 repeat (first | refine gw ?_ | refine gN fun _ => ?_ | refine gB fun _ => ?_ | fail)
 refine W.ret (fin _ _ (FinOk.mk' ([]) (.tmp rfl .nil) (by repeat (first | exact Sel.nil | (apply Sel.cons; (repeat (first | exact Pick.here | apply Pick.there))))) rfl ?_))
 exact ⟨rfl, rfl⟩
theorem ALen_spec (ps : List Pt) (b : Nat) (H : HL) (ha : ArAt ps b H) : Ctr Tryz.prog 150 [.pointer (some ⟨b, 0, none⟩)] [] H (fun v L' => v = .int .i64 (ps.length : Int) ∧ L' = []) := by
 obtain ⟨bs, bl, l, cap, Hp, rfl, hc, hl, hps⟩ := ha
 refine Ctr.enter (n := 8) [.tmp 2] [(0, _)] Tryz.func150 rfl rfl rfl (lb rfl) Tryz.call150 ⟨rfl, trivial⟩ ?_
 intro cx fin fin0
 refine aG ?_
 repeat (first | refine gw ?_ | refine gN fun _ => ?_ | refine gB fun _ => ?_ | fail)
 refine W.ret (fin _ _ (FinOk.mk' ([]) (.tmp rfl .nil) (by repeat (first | exact Sel.nil | (apply Sel.cons; (repeat (first | exact Pick.here | apply Pick.there))))) rfl ?_))
 exact ⟨rfl, rfl⟩
theorem ain_spec (ps : List Pt) (b : Nat) (H : HL) (ha : ArAt ps b H) (i : Int) : Ctr Tryz.prog 147 [.pointer (some ⟨b, 0, none⟩), .int .i64 i] [] H (fun v L' => v = .bool (decide (0 ≤ i ∧ i < ps.length)) ∧ L' = []) := by
 have hL := ALen_spec ps b H ha
 refine Ctr.enter (n := 13) [.tmp 4] [(0, _), (1, _)] Tryz.func147 rfl rfl rfl (lb rfl) Tryz.call147 ⟨rfl, rfl, trivial⟩ ?_
 intro cx fin fin0
 refine aG ?_
 by_cases h : 0 ≤ i
 ·
  refine aGo ?_ (hw := by simp [h])
  refine aGo ?_ (hw := by simp [h])
  refine aGo ?_ (hw := by simp [h])
  refine aC (o := hL) (h := ?_)
  rintro _ _ ⟨rfl, rfl⟩
  refine aG ?_
  refine aGo ?_ (hw := by simp [h])
  refine aPT ?_ (hb := by simp [h])
  refine W.ret (fin _ _ (FinOk.mk' ([]) (.tmp rfl .nil) (by repeat (first | exact Sel.nil | (apply Sel.cons; (repeat (first | exact Pick.here | apply Pick.there))))) rfl ?_))
  exact ⟨by simp [pack, h], rfl⟩
 ·
  refine aSk ?_ (hw := by simp [h])
  refine aSk ?_ (hw := by simp [h])
  refine aSk ?_ (hw := by simp [h])
  refine aSk ?_ (hw := by simp [h])
  refine aPF ?_ (hb := by simp [h])
  refine W.ret (fin _ _ (FinOk.mk' ([]) (.tmp rfl .nil) (by repeat (first | exact Sel.nil | (apply Sel.cons; (repeat (first | exact Pick.here | apply Pick.there))))) rfl ?_))
  exact ⟨by simp [pack, h], rfl⟩
theorem sum_spec (g : FuncId) (val : Pt → Int) (hg : ∀ p b H, PtAt p b H → p.Ok → Ctr Tryz.prog g [.pointer (some ⟨b, 0, none⟩)] [] H (fun v L' => v = .int .i64 (val p) ∧ L' = [])) (hv : ∀ p : Pt, p.Ok → 0 ≤ val p ∧ val p ≤ 64)
  (ps : List Pt) (hok : ∀ p ∈ ps, p.Ok) (hn : ps.length ≤ 1000) (b : Nat) (H : HL) (ha : ArAt ps b H) (i : Nat) (hi : i ≤ ps.length) :
  Ctr Tryz.prog 149 [.pointer (some ⟨b, 0, none⟩), .int .i64 (i : Int), .func (.func g) #[] #[]] [] H (fun v L' => v = .int .i64 (tot val (ps.take i)) ∧ L' = []) := by
 obtain ⟨bs, bl, l, cap, Hp, rfl, hc, hl, hps⟩ := ha
 have hbl := hps.len
 refine Ctr.enter (n := 28) [.tmp 6] [(0, _), (1, _), (2, _)] Tryz.func149 rfl rfl rfl (lb rfl) Tryz.call149 ⟨rfl, rfl, rfl, trivial⟩ ?_
 intro cx fin fin0
 refine aG ?_
 repeat (first | refine gw ?_ | refine gN fun _ => ?_ | refine gB fun _ => ?_ | fail)
 refine aV (OpVal.front tab_ok rfl rfl rfl rfl rfl (Nat.le_trans hi hc)) ?_
 refine aLp (fun m ρ1 L1 => ∃ (j : Nat) (s : Int), j ≤ i ∧ s = tot val (ps.take j) ∧ m = i - j ∧ ρ1 = [(17, .int .i64 (j : Int)), (16, .int .i64 (i : Int)), (15, .slice (some ⟨bl, 0, none⟩) i cap), (2, .func (.func g) #[] #[]), (7, .int .i64 s)] ∧ L1 = []) (o := ⟨0, 0, Nat.zero_le _, rfl, rfl, rfl, rfl⟩) (h := ?_)
 rintro m ρ1 L1 ⟨j, s, hj, hs, rfl, rfl, rfl⟩
 refine aG ?_
 by_cases hlt : j < i
 ·
  refine aT ?_ (hb := by simp; omega)
  have hjn : j < ps.length := by omega
  obtain ⟨bj, Hj, g1, g2, g3⟩ := hps.get hjn
  have hld := ptr_at hl hjn g1
  have hnx := tot_next val hjn
  have hb := tot_bound val (ps := ps.take j) (fun p hp => hv p (hok p (List.mem_of_mem_take hp)))
  have hb2 := hv _ (hok _ (List.getElem_mem hjn))
  have hcall := hg _ _ _ g2 (hok _ (List.getElem_mem hjn))
  rw [← hs] at hb hnx
  have hlen : (ps.take j).length ≤ 1000 := by simp; omega
  generalize val ps[j] = x at hnx hb2 hcall
  refine aV (OpVal.ixSl tab_ok rfl rfl rfl rfl rfl hlt) ?_
  refine aV (OpVal.load tab_ok rfl (at_ro 1 rfl) hld) ?_
  refine aC (o := hcall) (h := ?_) (hro := RoIn.all (fun p hp => List.mem_cons_of_mem _ (List.mem_cons_of_mem _ (g3 p hp))))
  rintro _ _ ⟨rfl, rfl⟩
  refine aG ?_
  refine aV (OpVal.add rfl rfl (i64_in _ (by omega))) ?_
  refine aV (OpVal.add rfl rfl (i64_in _ (by omega))) ?_
  refine aR (o := ⟨i - (j + 1), by omega, j + 1, _, by omega, hnx.symm, rfl, rfl, rfl⟩)
 ·
  refine aF ?_ (hb := by simp; omega)
  have : j = i := by omega
  subst this
  refine W.ret (fin _ _ (FinOk.mk' ([]) (.tmp rfl .nil) (by repeat (first | exact Sel.nil | (apply Sel.cons; (repeat (first | exact Pick.here | apply Pick.there))))) rfl ?_))
  exact ⟨by rw [hs]; rfl, rfl⟩
def flen (p : Pt) : Int := (p.fs.length : Int)
theorem flen_ok {p : Pt} (h : p.Ok) : 0 ≤ flen p ∧ flen p ≤ 64 := by unfold flen; have := h.2; omega
theorem Frames_spec (ps : List Pt) (hok : ∀ p ∈ ps, p.Ok) (hn : ps.length ≤ 1000) (b : Nat) (H : HL) (ha : ArAt ps b H) :
  Ctr Tryz.prog 144 [.pointer (some ⟨b, 0, none⟩)] [] H (fun v L' => v = .int .i64 (tot flen ps) ∧ L' = []) := by
 have hL := ALen_spec ps b H ha
 have hS := sum_spec 209 flen (fun p b H hp _ => PLen_spec p b H hp) (fun p h => flen_ok h) ps hok hn b H ha ps.length (Nat.le_refl _)
 refine Ctr.enter (n := 7) [.tmp 2] [(0, _)] Tryz.func144 rfl rfl rfl (lb rfl) Tryz.call144 ⟨rfl, trivial⟩ ?_
 intro cx fin fin0
 refine aG ?_
 refine aC (o := hL) (h := ?_)
 rintro _ _ ⟨rfl, rfl⟩
 refine aG ?_
 refine aC (o := hS) (h := ?_)
 rintro _ _ ⟨rfl, rfl⟩
 refine aG ?_
 refine W.ret (fin _ _ (FinOk.mk' ([]) (.tmp rfl .nil) (by repeat (first | exact Sel.nil | (apply Sel.cons; (repeat (first | exact Pick.here | apply Pick.there))))) rfl ?_))
 exact ⟨by rw [List.take_length]; rfl, rfl⟩
theorem Part_spec (ps : List Pt) (b : Nat) (H : HL) (bs : List Nat) (bl cap : Nat) (l : List Value) (Hp : HL) (hH : H = (b, .cells #[.slice (some ⟨bl, 0, none⟩) ps.length cap] 241 (0, 0)) :: (bl, .cells (List.toArray l) 173 (0, 0)) :: Hp)
  (hc : ps.length ≤ cap) (hl : l.take ps.length = ptrs bs) (hps : PtsAt ps bs Hp) (i : Int) :
  Ctr Tryz.prog 90 [.pointer (some ⟨b, 0, none⟩), .int .i64 i] [] H (fun v L' => v = .pointer (if 0 ≤ i ∧ i < ps.length then (bs[i.toNat]?).map fun b => ⟨b, 0, none⟩ else none) ∧ L' = []) := by
 have hI := ain_spec ps b H ⟨bs, bl, l, cap, Hp, hH, hc, hl, hps⟩ i
 subst hH
 refine Ctr.enter (n := 16) [.tmp 4] [(0, _), (1, _)] Tryz.func90 rfl rfl rfl (lb rfl) Tryz.call90 ⟨rfl, rfl, trivial⟩ ?_
 intro cx fin fin0
 refine aG ?_
 refine aC (o := hI) (h := ?_)
 rintro _ _ ⟨rfl, rfl⟩
 refine aG ?_
 by_cases h : 0 ≤ i ∧ i < ps.length
 ·
  refine aF ?_ (hb := by simp [h])
  obtain ⟨j, rfl⟩ : ∃ j : Nat, i = (j : Int) := ⟨i.toNat, by omega⟩
  have hj : j < ps.length := by omega
  obtain ⟨bj, Hj, g1, g2, g3⟩ := hps.get hj
  have hld := ptr_at hl hj g1
  repeat (first | refine gw ?_ | refine gN fun _ => ?_ | refine gB fun _ => ?_ | fail)
  refine aV (OpVal.ixSl tab_ok rfl rfl rfl rfl rfl hj) ?_
  refine aV (OpVal.load tab_ok rfl (at_ro 1 rfl) hld) ?_
  refine W.ret (fin _ _ (FinOk.mk' ([]) (.tmp rfl .nil) (by repeat (first | exact Sel.nil | (apply Sel.cons; (repeat (first | exact Pick.here | apply Pick.there))))) rfl ?_))
  exact ⟨by simp only [pack, if_pos h, Int.toNat_natCast, g1, Option.map_some], rfl⟩
 ·
  refine aT ?_ (hb := by simp [h])
  refine W.ret (fin _ _ (FinOk.mk' ([]) (.tmp rfl .nil) (by repeat (first | exact Sel.nil | (apply Sel.cons; (repeat (first | exact Pick.here | apply Pick.there))))) rfl ?_))
  exact ⟨by simp only [pack, if_neg h], rfl⟩
end Go.Proofs.YtfpghdcjdnifcaaGreat
namespace Go.Proofs.YtfpghdcjdnifcaaGreat
open Go Go.Sl Go.IntWalk
set_option maxHeartbeats 2000000
set_option maxRecDepth 20000
def made (ls : List Int) : List Pt := ls.map fun n => Pt.new n.toNat
def MayCut (ls : List Int) : Prop := 1 ≤ ls.length ∧ ls.length ≤ 16 ∧ (∀ n ∈ ls, 1 ≤ n ∧ n ≤ 64) ∧ tot flen (made ls) ≤ 64
theorem made_ok {ls : List Int} (h : ∀ n ∈ ls, 1 ≤ n ∧ n ≤ 64) : ∀ p ∈ made ls, p.Ok := by
 intro p hp
 obtain ⟨n, hn, rfl⟩ := List.mem_map.1 hp
 have := h n hn
 exact Pt.new_ok (by omega) (by omega)
theorem Cut_spec (xs : List Int) (a : Option Addr) (cap : Nat) (ro : HL) (hro : RoSl 1 (ints xs) a xs.length ro) :
  Ctr Tryz.prog 88 [.slice a xs.length cap] [] ro (fun v L' => (¬ MayCut xs ∧ v = .tuple #[.pointer none, .int .i64 1] ∧ L' = []) ∨
   (MayCut xs ∧ ∃ b H, v = .tuple #[.pointer (some ⟨b, 0, none⟩), .int .i64 0] ∧ L' = [H] ∧ ArAt (made xs) b H)) := by
 refine Ctr.enter (n := 48) [.tmp 2, .tmp 3] [(0, _)] Tryz.func88 rfl rfl rfl (lb rfl) Tryz.call88 ⟨rfl, trivial⟩ ?_
 intro cx fin fin0
 refine aG ?_
 by_cases h1 : xs.length < 1
 ·
  refine aSk ?_ (hw := by simp; omega)
  refine aSk ?_ (hw := by simp; omega)
  refine aSk ?_ (hw := by simp; omega)
  refine aPT ?_ (hb := by simp; omega)
  refine aT ?_
  refine W.ret (fin _ _ (FinOk.mk' ([]) (.tmp rfl (.tmp rfl .nil)) (by repeat (first | exact Sel.nil | (apply Sel.cons; (repeat (first | exact Pick.here | apply Pick.there))))) rfl ?_))
  exact .inl ⟨fun h => by have := h.1; omega, rfl, rfl⟩
 ·
  refine aGo ?_ (hw := by simp; omega)
  refine aGo ?_ (hw := by simp; omega)
  refine aGo ?_ (hw := by simp; omega)
  refine aPF ?_ (hb := by simp; omega)
  by_cases h2 : 16 < xs.length
  ·
   refine aT ?_ (hb := by simp; omega)
   refine W.ret (fin _ _ (FinOk.mk' ([]) (.tmp rfl (.tmp rfl .nil)) (by repeat (first | exact Sel.nil | (apply Sel.cons; (repeat (first | exact Pick.here | apply Pick.there))))) rfl ?_))
   exact .inl ⟨fun h => by have := h.2.1; omega, rfl, rfl⟩
  ·
   refine aF ?_ (hb := by simp; omega)
   refine aBu (ps := []) ?_
   repeat (first | refine gw ?_ | refine gN fun _ => ?_ | refine gB fun _ => ?_ | fail)
   rename_i b
   rcases hro.2 with ⟨h0, _⟩ | ⟨bx, ox, lx, ex, frx, rfl, rfl, hlx, hcx⟩
   · omega
   refine W.nilChunk ?_
   refine W.nilChunk ?_
   refine aLp (fun m ρ1 L1 => ∃ (j : Nat) (bs : List Nat) (aa : Option Addr) (cc : Nat) (Hl Hp : HL), j ≤ xs.length ∧ (∀ n ∈ xs.take j, 1 ≤ n ∧ n ≤ 64) ∧ Own 1 173 (ptrs bs) aa j cc Hl ∧ PtsAt (made (xs.take j)) bs Hp ∧ m = xs.length - j ∧ ρ1 = [(21, .int .i64 (j : Int)), (20, .int .i64 (xs.length : Int)), (19, .slice (some ⟨bx, ox, none⟩) xs.length cap), (4, .pointer (some ⟨b, 0, none⟩))] ∧ L1 = [[(b, .cells #[.slice aa j cc] 241 (0, 0))], Hl, Hp]) (o := ⟨0, [], none, 0, [], [], Nat.zero_le _, by simp, Own.nil _ _, ⟨rfl, rfl⟩, rfl, rfl, rfl⟩) (h := ?_)
   rintro m ρ1 L1 ⟨j, bs, aa, cc, Hl, Hp, hj, hall, hown, hpts, rfl, rfl, rfl⟩
   refine aG ?_
   by_cases hlt : j < xs.length
   ·
    refine aT ?_ (hb := by simp; omega)
    have hld := int_at hlx hcx hlt
    have hnx : xs.take (j + 1) = xs.take j ++ [xs[j]] := by rw [List.take_add_one]; simp [hlt]
    have hmem : xs[j] ∈ xs := List.getElem_mem hlt
    generalize xs[j] = x at hld hnx hmem
    refine aV (OpVal.ixSl tab_ok rfl rfl rfl rfl rfl hlt) ?_
    refine aV (OpVal.load tab_ok rfl (at_ro 0 rfl) hld) ?_
    refine aC (o := New_spec x) (h := ?_)
    rintro _ _ (⟨hno, rfl, rfl⟩ | ⟨hyes, b2, H2, rfl, rfl, hp2⟩)
    ·
     refine aG ?_
     refine aT ?_ (hb := by rfl)
     refine W.ret (fin _ _ (FinOk.mk' ([]) (.tmp rfl (.tmp rfl .nil)) (by repeat (first | exact Sel.nil | (apply Sel.cons; (repeat (first | exact Pick.here | apply Pick.there))))) rfl ?_))
     exact .inl ⟨fun h => hno (h.2.2.1 x hmem), rfl, rfl⟩
    ·
     refine aG ?_
     refine aF ?_ (hb := by rfl)
     repeat (first | refine gw ?_ | refine gN fun _ => ?_ | refine gB fun _ => ?_ | fail)
     refine aSl (ps := [_]) ?_
     intro bt
     refine aG ?_
     refine aAp (hown) ?_
     rintro _ _ ⟨_, _, _, rfl, rfl, ho⟩
     refine aG ?_
     repeat (first | refine gw ?_ | refine gN fun _ => ?_ | refine gB fun _ => ?_ | fail)
     refine aV (OpVal.add rfl rfl (i64_in _ (by omega))) ?_
     refine W.groupV [4, 2] rfl ?_
     have hpts2 := hpts.snoc hp2
     have e1 : made (xs.take (j + 1)) = made (xs.take j) ++ [Pt.new x.toNat] := by rw [hnx]; simp [made]
     rw [← e1] at hpts2
     have hall2 : ∀ n ∈ xs.take (j + 1), 1 ≤ n ∧ n ≤ 64 := by
      intro n hn
      rw [hnx] at hn
      rcases List.mem_append.1 hn with hn | hn
      · exact hall n hn
      · simp at hn; subst hn; exact hyes
     have epr : ptrs (bs ++ [b2]) = ptrs bs ++ [.pointer (some ⟨b2, 0, none⟩)] := by simp [ptrs]
     rw [← epr] at ho
     refine aR (o := ⟨xs.length - (j + 1), by omega, j + 1, bs ++ [b2], _, _, _, _, by omega, hall2, ho, hpts2, rfl, rfl, rfl⟩)
   ·
    refine aF ?_ (hb := by simp; omega)
    have hjn : j = xs.length := by omega
    subst hjn
    rw [List.take_length] at hall hpts
    have hml : (made xs).length = xs.length := by simp [made]
    obtain ⟨bl, ll, rfl, rfl, hlc, hll, htk⟩ := hown.some (by omega)
    rw [Nat.mul_one] at htk
    have hA : ArAt (made xs) b ((b, .cells #[.slice (some ⟨bl, 0, none⟩) xs.length cc] 241 (0, 0)) :: (bl, .cells (List.toArray ll) 173 (0, 0)) :: Hp) := ⟨bs, bl, ll, cc, Hp, by rw [hml], by rw [hml]; exact hlc, by rw [hml]; exact htk, hpts⟩
    have hF := Frames_spec (made xs) (made_ok hall) (by omega) b _ hA
    refine W.groupV [0, 0, 0] rfl ?_
    refine aG ?_
    refine aC (o := hF) (h := ?_)
    rintro _ _ ⟨rfl, rfl⟩
    refine aG ?_
    by_cases h64 : 64 < tot flen (made xs)
    ·
     refine aT ?_ (hb := by simp [h64])
     refine W.ret (fin _ _ (FinOk.mk' ([]) (.tmp rfl (.tmp rfl .nil)) (by repeat (first | exact Sel.nil | (apply Sel.cons; (repeat (first | exact Pick.here | apply Pick.there))))) rfl ?_))
     exact .inl ⟨fun h => by have := h.2.2.2; omega, rfl, rfl⟩
    ·
     refine aF ?_ (hb := by simp [h64])
     refine W.ret (fin _ _ (FinOk.first 1 (.tmp rfl (.tmp rfl .nil)) rfl ?_))
     exact .inr ⟨⟨by omega, by omega, hall, by omega⟩, b, _, rfl, rfl, hA⟩
end Go.Proofs.YtfpghdcjdnifcaaGreat
namespace Go.Proofs.YtfpghdcjdnifcaaGreat
open Go Go.Sl Go.IntWalk
set_option maxHeartbeats 8000000
set_option maxRecDepth 20000
set_option linter.unusedVariables false
def rhas (s n : Int) : Bool := decide (bits BinOp.and .i64 s n = n)
theorem rhas_table : ∀ a b : Fin 16, rhas (a.val : Int) (b.val : Int) = ((b.val % 2 ≤ a.val % 2) && (b.val / 2 % 2 ≤ a.val / 2 % 2) && (b.val / 4 % 2 ≤ a.val / 4 % 2) && (b.val / 8 % 2 ≤ a.val / 8 % 2) : Bool) := by decide +kernel
structure Cs where
 u : Bool
 g : Int
 o : Int
deriving DecidableEq
def Cs.l (x : Cs) : List Value := [.bool x.u, .int .i64 x.g, .int .i64 x.o]
structure Tb where
 e : Int
 n : Int
 s : List Cs
def Tb.l (t : Tb) : List Value := .int .i64 t.e :: .int .i64 t.n :: t.s.flatMap Cs.l
def csNo : Cs := ⟨false, 0, 0⟩
def alls : Int → List Cs → List (Int × Int)
 | _, [] => []
 | k, x :: r => (if x.u then [(k, x.g)] else []) ++ alls (k + 1) r
def Tb.all (t : Tb) : List (Int × Int) := alls 0 t.s
def Tb.root (t : Tb) : Int × Int := (0, t.e * 1048576)
def Tb.own (t : Tb) (k : Int) : Int := (t.s.getD k.toNat csNo).o
def Tb.rights (t : Tb) (c : Int × Int) : Int × Int := if c ∈ t.all then (t.own c.1, 0) else (0, 10)
def Tb.check (t : Tb) (c : Int × Int) (need : Int) : Int := if c ∈ t.all then (if rhas (t.own c.1) need then 0 else 11) else 10
def Tb.give (t : Tb) (i : Nat) (own : Int) : Tb := ⟨t.e, t.n + 1, t.s.set i ⟨true, t.e * 1048576 + t.n, own⟩⟩
def Tb.free (t : Tb) : Option Nat := t.s.findIdx? (fun x => !x.u)
def Tb.mint (t : Tb) (c : Int × Int) (s : Int) : Tb × (Int × Int) × Int :=
 if t.check c 8 ≠ 0 then (t, (0, 0), t.check c 8) else if ¬ (0 ≤ s ∧ s < 16) then (t, (0, 0), 1) else if t.check c s ≠ 0 then (t, (0, 0), t.check c s) else
 match t.free with
 | none => (t, (0, 0), 13)
 | some i => if 1048576 ≤ t.n then (t, (0, 0), 13) else (t.give i s, ((i : Int), t.e * 1048576 + t.n), 0)
def Tb.new (e : Int) : Tb := (⟨e, 0, List.replicate 8 csNo⟩ : Tb).give 0 15
structure Tb.Inv (t : Tb) : Prop where
 len : t.s.length = 8
 e : 1 ≤ t.e ∧ t.e ≤ 1073741824
 n : 0 ≤ t.n ∧ t.n ≤ 1048576
 g : ∀ x ∈ t.s, (0 ≤ x.g ∧ x.g < 1073741825 * 1048576) ∧ (0 ≤ x.o ∧ x.o < 16)
theorem mem_alls {c : Int × Int} : ∀ {k : Int} {s : List Cs}, c ∈ alls k s ↔ ∃ i : Nat, ∃ h : i < s.length, (s[i]).u = true ∧ c = (k + i, (s[i]).g)
 | k, [] => by simp [alls]
 | k, x :: r => by
  rw [alls, List.mem_append, mem_alls]
  constructor
  ·
   rintro (h | ⟨i, hi, h1, h2⟩)
   ·
    split at h
    ·
     rename_i hu
     rw [List.mem_singleton] at h
     exact ⟨0, by simp, hu, by simp [h]⟩
    · simp at h
   · exact ⟨i + 1, by simpa using hi, by simpa using h1, by rw [h2]; simp; omega⟩
  ·
   rintro ⟨i, hi, h1, h2⟩
   cases i with
   | zero => left; simp only [List.getElem_cons_zero] at h1 h2; rw [if_pos h1, h2]; simp
   | succ i => right; exact ⟨i, by simpa using hi, by simpa using h1, by rw [h2]; simp; omega⟩
theorem Tb.new_all (e : Int) : (Tb.new e).all = [(0, e * 1048576)] := by
 unfold Tb.new Tb.give Tb.all
 simp [List.replicate, alls, csNo]
theorem Tb.new_inv {e : Int} (h : 1 ≤ e ∧ e ≤ 1073741824) : (Tb.new e).Inv := by
 refine ⟨rfl, h, ⟨by show (0 : Int) ≤ 0 + 1; decide, by show (0 : Int) + 1 ≤ _; decide⟩, fun x hx => ?_⟩
 have hx' : x ∈ (List.replicate 8 csNo).set 0 ⟨true, e * 1048576 + 0, 15⟩ := hx
 rcases List.mem_or_eq_of_mem_set hx' with hx | rfl
 · rw [List.eq_of_mem_replicate hx]; exact ⟨⟨by decide, by decide⟩, by decide, by decide⟩
 · refine ⟨⟨?_, ?_⟩, by show (0 : Int) ≤ 15; decide, by show (15 : Int) < 16; decide⟩ <;> simp only <;> omega
theorem Tb.give_inv {t : Tb} (h : t.Inv) (hn : t.n < 1048576) (i : Nat) {own : Int} (ho : 0 ≤ own ∧ own < 16) : (t.give i own).Inv := by
 have he := h.e
 have hn' := h.n
 refine ⟨by show (t.s.set i _).length = 8; rw [List.length_set]; exact h.len, h.e, ⟨by show 0 ≤ t.n + 1; omega, by show t.n + 1 ≤ _; omega⟩, fun x hx => ?_⟩
 have hx' : x ∈ t.s.set i ⟨true, t.e * 1048576 + t.n, own⟩ := hx
 rcases List.mem_or_eq_of_mem_set hx' with hx | rfl
 · exact h.g x hx
 · refine ⟨⟨?_, ?_⟩, ho⟩ <;> simp only <;> omega
end Go.Proofs.YtfpghdcjdnifcaaGreat
namespace Go.Proofs.YtfpghdcjdnifcaaGreat
open Go Go.Sl Go.IntWalk
set_option maxHeartbeats 8000000
set_option maxRecDepth 20000
set_option linter.unusedVariables false
structure Cp where
 q : Int
 b : Int
 p : Int
deriving DecidableEq
def Cp.l (x : Cp) : List Value := [.int .i64 x.q, .int .i64 x.b, .int .i64 x.p]
def Cp.In (x : Cp) : Prop := i64s x.q ∧ i64s x.b ∧ i64s x.p
def Cp.to (x : Cp) : Int := x.b + x.p * 2
def Cp.Ok (s : Int) (x : Cp) : Prop := (1 ≤ x.q ∧ x.q ≤ 64) ∧ (1 ≤ x.p ∧ x.p ≤ 64) ∧ (0 ≤ x.b ∧ x.to ≤ s)
def Apart (x y : Cp) : Prop := x.to ≤ y.b ∨ y.to ≤ x.b
structure Cf where
 fr : Int
 dp : Int
 se : Int
 ps : List Cp
def Cf.v (c : Cf) (a : Option Addr) (n : Nat) : Value := .agg #[.int .i64 c.fr, .int .i64 c.dp, .int .i64 c.se, .slice a c.ps.length n]
structure Cf.In (c : Cf) : Prop where
 fr : i64s c.fr
 dp : i64s c.dp
 se : i64s c.se
 ps : ∀ x ∈ c.ps, x.In
structure Cf.Ok (c : Cf) : Prop where
 len : 1 ≤ c.ps.length ∧ c.ps.length ≤ 16
 fr : 1 ≤ c.fr ∧ c.fr ≤ 64
 dp : 1 ≤ c.dp ∧ c.dp ≤ 8
 se : 1 ≤ c.se ∧ c.se ≤ 1024
 ps : ∀ x ∈ c.ps, x.Ok c.se
 ap : c.ps.Pairwise Apart
 sum : (c.ps.map Cp.q).sum = c.fr
def Cf.Upto (c : Cf) (n : Nat) : Prop := (∀ x ∈ c.ps.take n, x.Ok c.se) ∧ (c.ps.take n).Pairwise Apart
theorem Cf.Upto.zero (c : Cf) : c.Upto 0 := ⟨fun x hx => by simp at hx, by simp⟩
theorem Cf.Upto.le {c : Cf} {m n : Nat} (h : c.Upto n) (hm : m ≤ n) : c.Upto m := by
 obtain ⟨h1, h2⟩ := h
 have e : c.ps.take m = (c.ps.take n).take m := by rw [List.take_take, Nat.min_eq_left hm]
 refine ⟨fun x hx => h1 x ?_, ?_⟩
 · rw [e] at hx; exact List.mem_of_mem_take hx
 · rw [e]; exact h2.sublist (List.take_sublist _ _)
theorem Cf.ok_iff (c : Cf) : c.Ok ↔ (1 ≤ c.ps.length ∧ c.ps.length ≤ 16) ∧ (1 ≤ c.fr ∧ c.fr ≤ 64) ∧ (1 ≤ c.dp ∧ c.dp ≤ 8) ∧ (1 ≤ c.se ∧ c.se ≤ 1024) ∧ c.Upto c.ps.length ∧ (c.ps.map Cp.q).sum = c.fr := by
 unfold Cf.Upto
 rw [List.take_length]
 exact ⟨fun h => ⟨h.len, h.fr, h.dp, h.se, ⟨h.ps, h.ap⟩, h.sum⟩, fun ⟨a, b, c, d, ⟨e, f⟩, g⟩ => ⟨a, b, c, d, e, f, g⟩⟩
def sumq (l : List Cp) : Int := (l.map Cp.q).sum
theorem sumq_succ {l : List Cp} {n : Nat} (h : n < l.length) : sumq (l.take (n + 1)) = sumq (l.take n) + l[n].q := by
 unfold sumq
 rw [List.take_succ_eq_append_getElem h, List.map_append, List.sum_append]
 simp
theorem sumq_bound {s : Int} : ∀ {l : List Cp}, (∀ x ∈ l, x.Ok s) → 0 ≤ sumq l ∧ sumq l ≤ 64 * (l.length : Int)
 | [], _ => by simp [sumq]
 | x :: l, h => by
  have h1 := sumq_bound (l := l) fun y hy => h y (List.mem_cons_of_mem _ hy)
  have h2 := (h x (List.mem_cons_self ..)).1
  simp only [sumq, List.map_cons, List.sum_cons, List.length_cons] at h1 ⊢
  omega
theorem apart_ne {s : Int} {x y : Cp} (hx : x.Ok s) (h : Apart x y) : x ≠ y := by
 rintro rfl
 unfold Apart Cp.Ok Cp.to at *
 omega
def Cp.has (x : Cp) (s : Int) : Prop := x.b ≤ s ∧ s < x.to
instance (x : Cp) (s : Int) : Decidable (x.has s) := by unfold Cp.has; infer_instance
end Go.Proofs.YtfpghdcjdnifcaaGreat
namespace Go.Proofs.YtfpghdcjdnifcaaGreat
open Go Go.Sl Go.IntWalk
set_option maxHeartbeats 8000000
set_option maxRecDepth 20000
set_option linter.unusedVariables false
def Cp.v (x : Cp) : Value := .agg #[.int .i64 x.q, .int .i64 x.b, .int .i64 x.p]
def cps (l : List Cp) : List Value := l.flatMap Cp.l
def cpEq (x y : Cp) : Bool := (x.q == y.q) && ((x.b == y.b) && ((x.p == y.p) && true))
theorem cpEq_is (x y : Cp) : cpEq x y = decide (x = y) := by
 obtain ⟨a, b, c⟩ := x
 obtain ⟨d, e, f⟩ := y
 unfold cpEq
 by_cases h1 : a = d <;> by_cases h2 : b = e <;> by_cases h3 : c = f <;> simp [h1, h2, h3]
theorem part_eq (x y : Cp) : EqD Tryz.prog 2 92 x.v y.v (decide (x = y)) := by
 rw [← cpEq_is]
 exact EqD.struct (P := Tryz.prog) (k := 1) (fs := Tryz.prog.fieldsOf 92) (by kernel_rfl) (by kernel_rfl)
  (FEqs.of_sig (sig := [(false, 3, 0), (false, 3, 1), (false, 3, 2)]) (by kernel_rfl)
   ⟨_, _, rfl, rfl, FEqT.one ty_3.1 rfl rfl (EqD.int Tryz.underlying3), _, _, rfl, rfl, FEqT.one ty_3.1 rfl rfl (EqD.int Tryz.underlying3), _, _, rfl, rfl, FEqT.one ty_3.1 rfl rfl (EqD.int Tryz.underlying3), rfl⟩)
theorem part_guard : Tryz.prog.eqGuardType Tryz.prog.depth 92 = false := by kernel_rfl
theorem nePart {n : Nat} {R : HL} {cx : Cx} {ρ : Env} {L : List HL} {ty t' : Nat} {x y : Operand} {f g : Cp} (hx : ev? ρ x = some f.v) (hy : ev? ρ y = some g.v) :
  OpVal Tryz.prog n R cx (.binOp .neq 92 x y t') ty ρ L (.bool (!decide (f = g))) := OpVal.neD (k := 2) hx hy (part_eq f g) (by decide) part_guard
theorem cin_spec (n lo hi : Int) : Ctr Tryz.prog 275 [.int .i64 n, .int .i64 lo, .int .i64 hi] [] [] (fun v L' => v = .bool (decide (lo ≤ n ∧ n ≤ hi)) ∧ L' = []) := by
 refine Ctr.enter (n := 15) [.tmp 6] [(0, _), (1, _), (2, _)] Tryz.func275 rfl rfl rfl (lb rfl) Tryz.call275 ⟨rfl, rfl, rfl, trivial⟩ ?_
 intro cx fin fin0
 refine aG ?_
 by_cases h : lo ≤ n
 ·
  repeat (first | refine gh h ?_ | refine gN fun _ => ?_ | refine gB fun _ => ?_ | fail)
  refine W.ret (fin _ _ (FinOk.first 0 (.tmp rfl .nil) rfl ?_))
  exact ⟨by simp [pack, h], rfl⟩
 ·
  repeat (first | refine gh h ?_ | refine gN fun _ => ?_ | refine gB fun _ => ?_ | fail)
  refine W.ret (fin _ _ (FinOk.first 0 (.tmp rfl .nil) rfl ?_))
  exact ⟨by simp [pack, h], rfl⟩
def Cp.Fit (x : Cp) : Prop := (0 ≤ x.p ∧ x.p ≤ 64) ∧ (0 ≤ x.b ∧ x.b ≤ 1024)
theorem Cp.Ok.fit {se : Int} (hs : se ≤ 1024) {x : Cp} (h : x.Ok se) : x.Fit := by
 unfold Cp.Ok Cp.to at h
 unfold Cp.Fit
 omega
theorem cend_spec (x : Cp) (h : x.Fit) : Ctr Tryz.prog 310 [x.v] [] [] (fun v L' => v = .int .i64 x.to ∧ L' = []) := by
 obtain ⟨q, b, p⟩ := x
 unfold Cp.Fit at h
 simp only [Cp.v] at *
 refine Ctr.enter (n := 9) [.tmp 2] [(0, _)] Tryz.func310 rfl rfl rfl (lb rfl) Tryz.call310 ⟨rfl, trivial⟩ ?_
 intro cx fin fin0
 refine aG ?_
 repeat (first | refine gx ?_ | refine gN fun _ => ?_ | refine gB fun _ => ?_ | fail)
 refine aV (OpVal.mul rfl rfl (i64_in _ (by omega))) ?_
 repeat (first | refine gx ?_ | refine gN fun _ => ?_ | refine gB fun _ => ?_ | fail)
 refine W.order [] rfl ?_
 refine W.ret (fin _ _ (FinOk.first 0 (.tmp rfl .nil) rfl ?_))
 exact ⟨rfl, rfl⟩
theorem cpart_spec (x : Cp) (se : Int) (hs : 1 ≤ se ∧ se ≤ 1024) : Ctr Tryz.prog 276 [x.v, .int .i64 se] [] [] (fun v L' => ∃ s, v = .string s ∧ L' = [] ∧ ((x.Ok se ∧ s = ⟨#[]⟩) ∨ (¬ x.Ok se ∧ (s.toList == (⟨#[]⟩ : ByteArray).toList) = false))) := by
 have h1 := cin_spec x.q 1 64
 have h2 := cin_spec x.p 1 64
 have h3 := cin_spec x.b 0 se
 have h4 := cend_spec x
 unfold Cp.Ok
 obtain ⟨q, b, p⟩ := x
 simp only [Cp.v, Cp.Fit] at *
 have hto : Cp.to ⟨q, b, p⟩ = b + p * 2 := rfl
 generalize Cp.to ⟨q, b, p⟩ = to at *
 refine Ctr.enter (n := 27) [.tmp 4] [(0, _), (1, _)] Tryz.func276 rfl rfl rfl (lb rfl) Tryz.call276 ⟨rfl, rfl, trivial⟩ ?_
 intro cx fin fin0
 refine aG ?_
 repeat (first | refine gx ?_ | refine gN fun _ => ?_ | refine gB fun _ => ?_ | fail)
 refine aC (o := h1) (h := ?_)
 rintro _ _ ⟨rfl, rfl⟩
 refine aG ?_
 rcases Classical.em (1 ≤ q ∧ q ≤ 64) with g1 | g1
 case' inr =>
  repeat (first | refine gh g1 ?_ | refine gN fun _ => ?_ | refine gB fun _ => ?_ | fail)
  refine W.order [] rfl ?_
  refine W.ret (fin _ _ (FinOk.first 0 (.tmp rfl .nil) rfl ?_))
  exact ⟨_, rfl, rfl, .inr ⟨fun h => g1 h.1, by kernel_rfl⟩⟩
 repeat (first | refine gh g1 ?_ | refine gN fun _ => ?_ | refine gB fun _ => ?_ | fail)
 refine aC (o := h2) (h := ?_)
 rintro _ _ ⟨rfl, rfl⟩
 refine aG ?_
 rcases Classical.em (1 ≤ p ∧ p ≤ 64) with g2 | g2
 case' inr =>
  repeat (first | refine gh g2 ?_ | refine gN fun _ => ?_ | refine gB fun _ => ?_ | fail)
  refine W.order [] rfl ?_
  refine W.ret (fin _ _ (FinOk.first 0 (.tmp rfl .nil) rfl ?_))
  exact ⟨_, rfl, rfl, .inr ⟨fun h => g2 h.2.1, by kernel_rfl⟩⟩
 repeat (first | refine gh g2 ?_ | refine gN fun _ => ?_ | refine gB fun _ => ?_ | fail)
 refine aC (o := h3) (h := ?_)
 rintro _ _ ⟨rfl, rfl⟩
 refine aG ?_
 rcases Classical.em (0 ≤ b ∧ b ≤ se) with g3 | g3
 case' inr =>
  repeat (first | refine gh g3 ?_ | refine gN fun _ => ?_ | refine gB fun _ => ?_ | fail)
  refine W.order [] rfl ?_
  refine W.ret (fin _ _ (FinOk.first 0 (.tmp rfl .nil) rfl ?_))
  exact ⟨_, rfl, rfl, .inr ⟨fun h => g3 ⟨h.2.2.1, by have := h.2.2.2; omega⟩, by kernel_rfl⟩⟩
 repeat (first | refine gh g3 ?_ | refine gN fun _ => ?_ | refine gB fun _ => ?_ | fail)
 refine aC (o := h4 (by omega)) (h := ?_)
 rintro _ _ ⟨rfl, rfl⟩
 refine aG ?_
 rcases Classical.em (to > se) with g4 | g4
 ·
  repeat (first | refine gh (gc2 g3 g4) ?_ | refine gN fun _ => ?_ | refine gB fun _ => ?_ | fail)
  refine W.order [] rfl ?_
  refine W.ret (fin _ _ (FinOk.first 0 (.tmp rfl .nil) rfl ?_))
  exact ⟨_, rfl, rfl, .inr ⟨fun h => by have := h.2.2.2; omega, by kernel_rfl⟩⟩
 ·
  repeat (first | refine gh (gc2 g3 g4) ?_ | refine gN fun _ => ?_ | refine gB fun _ => ?_ | fail)
  refine W.order [] rfl ?_
  refine W.ret (fin _ _ (FinOk.first 0 (.tmp rfl .nil) rfl ?_))
  exact ⟨_, rfl, rfl, .inl ⟨⟨g1, g2, g3.1, by omega⟩, rfl⟩⟩
theorem cps_at {l : List Cp} {a : Option Addr} {ro : HL} (h : RoSl 3 (cps l) a l.length ro) {i : Nat} (hi : i < l.length) :
  ∃ b off q e fr, a = some ⟨b, off, none⟩ ∧ ro = [(b, .cells (List.toArray q) e fr)] ∧ ldv? tab 92 q (off + i * 3) = some (l[i]).v := by
 obtain ⟨b, off, q, e, fr, h1, h2, h3, -⟩ := RoSl.at (f := Cp.l) (m := 3) (fun _ => rfl) h hi
 refine ⟨b, off, q, e, fr, h1, h2, ?_⟩
 have hty : look? tab.tys 92 = some (true, 3) := rfl
 unfold ldv?
 rw [hty]
 simp only
 rw [h3]
 rfl
theorem meets_spec (l : List Cp) (hl : l.length ≤ 16) (se : Int) (hse : se ≤ 1024) (hok : ∀ x ∈ l, x.Ok se) (a : Option Addr) (cap : Nat) (hcap : l.length ≤ cap) (ro : HL) (hro : RoSl 3 (cps l) a l.length ro) :
  Ctr Tryz.prog 277 [.slice a l.length cap] [] ro (fun v L' => ∃ j : Int, v = .int .i64 j ∧ L' = [] ∧ ((l.Pairwise Apart ∧ j = -1) ∨ (¬ l.Pairwise Apart ∧ 0 ≤ j))) := by
 refine Ctr.enter (n := 42) [.tmp 2] [(0, _)] Tryz.func277 rfl rfl rfl (lb rfl) Tryz.call277 ⟨rfl, trivial⟩ ?_
 intro cx fin fin0
 refine aG ?_
 repeat (first | refine gx ?_ | refine gN fun _ => ?_ | refine gB fun _ => ?_ | fail)
 refine aLp (fun k ρ1 L1 => ∃ i : Nat, i ≤ l.length ∧ (l.take i).Pairwise Apart ∧ k = l.length - i ∧ ρ1 = [(9, .int .i64 (i : Int)), (8, .int .i64 (l.length : Int)), (7, .slice a l.length cap), (0, .slice a l.length cap)] ∧ L1 = []) (o := ⟨0, Nat.zero_le _, by simp, rfl, rfl, rfl⟩) (h := ?_)
 rintro k ρ1 L1 ⟨i, hi, hp, rfl, rfl, rfl⟩
 refine aG ?_
 rcases Classical.em ((i : Int) < (l.length : Int)) with h | h
 case' inr =>
  have hil : i = l.length := by omega
  repeat (first | refine gh h ?_ | refine gN fun _ => ?_ | refine gB fun _ => ?_ | fail)
  refine W.ret (fin _ _ (FinOk.first 0 (.tmp rfl .nil) rfl ?_))
  exact ⟨-1, rfl, rfl, .inl ⟨by rwa [hil, List.take_length] at hp, rfl⟩⟩
 have hlt : i < l.length := by omega
 have hfi := (hok _ (List.getElem_mem hlt)).fit hse
 obtain ⟨bx, ox, lx, ex, frx, rfl, rfl, hld⟩ := cps_at hro hlt
 repeat (first | refine gh h ?_ | refine gN fun _ => ?_ | refine gB fun _ => ?_ | fail)
 refine aV (OpVal.ixSl tab_ok rfl rfl rfl rfl rfl hlt) ?_
 refine aV (OpVal.load tab_ok rfl (at_ro 0 rfl) hld) ?_
 repeat (first | refine gx ?_ | refine gN fun _ => ?_ | refine gB fun _ => ?_ | fail)
 rename_i b4
 refine aV (OpVal.front tab_ok rfl rfl rfl rfl rfl (show i ≤ cap by omega)) ?_
 repeat (first | refine gx ?_ | refine gN fun _ => ?_ | refine gB fun _ => ?_ | fail)
 have hE1 := cend_spec l[i] hfi
 have htk : l.take (i + 1) = l.take i ++ [l[i]] := List.take_succ_eq_append_getElem hlt
 have hpa := fun (j : Nat) (hjl : j < l.length) (hj : j < i) (hp : l.Pairwise Apart) => List.pairwise_iff_getElem.1 hp j i hjl hlt hj
 generalize l[i] = xi at *
 refine aLp (fun k ρ1 L1 => ∃ j : Nat, j ≤ i ∧ (∀ m y, m < j → l[m]? = some y → Apart y xi) ∧ k = i - j ∧ ρ1 = [(18, .int .i64 (j : Int)), (17, .int .i64 (i : Int)), (16, .slice (some ⟨bx, ox, none⟩) i cap), (3, .int .i64 (i : Int)), (4, .pointer (some ⟨b4, 0, none⟩)), (9, .int .i64 (i : Int)), (8, .int .i64 (l.length : Int)), (7, .slice (some ⟨bx, ox, none⟩) l.length cap), (0, .slice (some ⟨bx, ox, none⟩) l.length cap)] ∧ L1 = [[(b4, .cells #[.int .i64 xi.q, .int .i64 xi.b, .int .i64 xi.p] 92 (0, 0))]]) (o := ⟨0, Nat.zero_le _, (by intro _ _ h; omega), rfl, rfl, rfl⟩) (h := ?_)
 rintro k ρ1 L1 ⟨j, hj, hall, rfl, rfl, rfl⟩
 refine aG ?_
 rcases Classical.em ((j : Int) < (i : Int)) with h2 | h2
 case' inr =>
  have hji : j = i := by omega
  repeat (first | refine gh h2 ?_ | refine gN fun _ => ?_ | refine gB fun _ => ?_ | fail)
  refine W.order [] rfl ?_
  have hp2 : (l.take (i + 1)).Pairwise Apart := by
   rw [htk, List.pairwise_append]
   refine ⟨hp, List.pairwise_singleton _ _, fun x hx y hy => ?_⟩
   rw [List.mem_singleton.1 hy]
   obtain ⟨m, hm, rfl⟩ := List.mem_take_iff_getElem.1 hx
   exact hall m _ (by omega) (List.getElem?_eq_getElem _)
  refine aR (o := ⟨l.length - (i + 1), by omega, i + 1, hlt, hp2, rfl, rfl, rfl⟩)
 have hjl : j < l.length := by omega
 have hfj := (hok _ (List.getElem_mem hjl)).fit hse
 obtain ⟨bx', ox', lx', ex', frx', hb', hr', hld'⟩ := cps_at hro hjl
 cases hb'
 cases hr'
 have hE2 := cend_spec l[j] hfj
 have hne := fun h => apart_ne (hok _ (List.getElem_mem hjl)) (y := xi) h
 have hnp : ¬ Apart l[j] xi → ¬ l.Pairwise Apart := fun h hp => h (hpa j hjl (by omega) hp)
 have hnx : Apart l[j] xi → ∀ m y, m < j + 1 → l[m]? = some y → Apart y xi := fun h m y hm hy => by
  rcases Nat.lt_or_ge m j with hmj | hmj
  · exact hall m y hmj hy
  ·
   have : m = j := by omega
   subst this
   rw [List.getElem?_eq_getElem hjl] at hy
   cases hy
   exact h
 unfold Apart at hne hnp
 have hnx2 : (l[j].to ≤ xi.b ∨ xi.to ≤ l[j].b) → _ := hnx
 generalize l[j] = xj at *
 repeat (first | refine gh h2 ?_ | refine gN fun _ => ?_ | refine gB fun _ => ?_ | fail)
 refine aV (OpVal.ixSl tab_ok rfl rfl rfl rfl rfl (show j < i by omega)) ?_
 refine aV (OpVal.load tab_ok rfl (at_ro 0 rfl) hld') ?_
 repeat (first | refine gx ?_ | refine gN fun _ => ?_ | refine gB fun _ => ?_ | fail)
 refine W.draw follows (by decide +kernel) (zG ?_)
 refine gzx ?_
 refine zV (nePart (f := xi) (g := xj) rfl rfl) ?_
 rcases Classical.em (xi = xj) with g1 | g1
 ·
  have hno := hnp (fun h => hne h g1.symm)
  refine gzh g1 ?_
  refine WZ.nil (aG ?_)
  repeat (first | refine gh g1 ?_ | refine gN fun _ => ?_ | refine gB fun _ => ?_ | fail)
  refine W.order [] rfl ?_
  refine W.ret (fin _ _ (FinOk.first 0 (.tmp rfl .nil) rfl ?_))
  exact ⟨_, rfl, rfl, .inr ⟨hno, by omega⟩⟩
 ·
  refine gzh g1 ?_
  refine zC (o := hE1) (h := ?_)
  refine gzh g1 ?_
  rcases Classical.em (xi.to ≤ xj.b) with g2 | g2
  ·
   refine gzh (gc2 g1 g2) ?_
   refine WZ.nil (aG ?_)
   repeat (first | refine gh (gc2 g1 g2) ?_ | refine gN fun _ => ?_ | refine gB fun _ => ?_ | fail)
   refine W.order [1] rfl ?_
   refine aR (o := ⟨i - (j + 1), by omega, j + 1, by omega, hnx2 (.inr g2), rfl, rfl, rfl⟩)
  ·
   refine gzh (gc2 g1 g2) ?_
   refine zC (o := hE2) (h := ?_)
   refine gzh (gc2 g1 g2) ?_
   rcases Classical.em (xj.to ≤ xi.b) with g3 | g3
   ·
    refine gzh (gc3 g1 g2 g3) ?_
    refine WZ.nil (aG ?_)
    repeat (first | refine gh (gc3 g1 g2 g3) ?_ | refine gN fun _ => ?_ | refine gB fun _ => ?_ | fail)
    refine W.order [1] rfl ?_
    refine aR (o := ⟨i - (j + 1), by omega, j + 1, by omega, hnx2 (.inl g3), rfl, rfl, rfl⟩)
   ·
    have hno := hnp (by omega)
    refine gzh (gc3 g1 g2 g3) ?_
    refine WZ.nil (aG ?_)
    repeat (first | refine gh (gc3 g1 g2 g3) ?_ | refine gN fun _ => ?_ | refine gB fun _ => ?_ | fail)
    refine W.order [] rfl ?_
    refine W.ret (fin _ _ (FinOk.first 0 (.tmp rfl .nil) rfl ?_))
    exact ⟨_, rfl, rfl, .inr ⟨hno, by omega⟩⟩
theorem noStr : ((⟨#[]⟩ : ByteArray).toList == (⟨#[]⟩ : ByteArray).toList) = true := by kernel_rfl
theorem CCheck_spec (c : Cf) (hps : c.ps.length ≤ 9223372036854775807) (a : Option Addr) (cap : Nat) (hcap : c.ps.length ≤ cap) (ro : HL) (hro : RoSl 3 (cps c.ps) a c.ps.length ro) :
  Ctr Tryz.prog 248 [c.v a cap] [] ro (fun v L' => ∃ s i, v = .tuple #[.string s, .int .i64 i] ∧ L' = [] ∧ ((c.Ok ∧ s = ⟨#[]⟩) ∨ (¬ c.Ok ∧ (s.toList == (⟨#[]⟩ : ByteArray).toList) = false))) := by
 have k1 := cin_spec c.ps.length 1 16
 have k2 := cin_spec c.fr 1 64
 have k3 := cin_spec c.dp 1 8
 have k4 := cin_spec c.se 1 1024
 rw [Cf.ok_iff]
 have hP := fun (x : Cp) h => cpart_spec x c.se h
 have hM := fun (j : Nat) (hj : j < c.ps.length) h16 hse hok => meets_spec (c.ps.take (j + 1)) h16 c.se hse hok a cap (by rw [List.length_take]; omega) ro (by rw [List.length_take, Nat.min_eq_left (by omega)]; exact RoSl.take (f := Cp.l) (m := 3) (fun _ => rfl) hro (j + 1) hj)
 obtain ⟨fr, dp, se, ps⟩ := c
 simp only [Cf.Upto] at *
 refine Ctr.enter (n := 62) [.tmp 2, .tmp 3] [(0, _)] Tryz.func248 rfl rfl rfl (lb rfl) Tryz.call248 ⟨rfl, trivial⟩ ?_
 intro cx fin fin0
 refine aG ?_
 repeat (first | refine gx ?_ | refine gN fun _ => ?_ | refine gB fun _ => ?_ | fail)
 rename_i b1
 refine aC (o := k1) (h := ?_)
 rintro _ _ ⟨rfl, rfl⟩
 refine aG ?_
 rcases Classical.em (1 ≤ (ps.length : Int) ∧ (ps.length : Int) ≤ 16) with g1 | g1
 case' inr =>
  repeat (first | refine gh g1 ?_ | refine gN fun _ => ?_ | refine gB fun _ => ?_ | fail)
  refine W.order [] rfl ?_
  refine W.ret (fin _ _ (FinOk.first 0 (.tmp rfl (.tmp rfl .nil)) rfl ?_))
  exact ⟨_, _, rfl, rfl, .inr ⟨fun h => g1 (by have := h.1; omega), by kernel_rfl⟩⟩
 repeat (first | refine gh g1 ?_ | refine gN fun _ => ?_ | refine gB fun _ => ?_ | fail)
 refine aC (o := k2) (h := ?_)
 rintro _ _ ⟨rfl, rfl⟩
 refine aG ?_
 rcases Classical.em (1 ≤ fr ∧ fr ≤ 64) with g2 | g2
 case' inr =>
  repeat (first | refine gh g2 ?_ | refine gN fun _ => ?_ | refine gB fun _ => ?_ | fail)
  refine W.order [] rfl ?_
  refine W.ret (fin _ _ (FinOk.first 0 (.tmp rfl (.tmp rfl .nil)) rfl ?_))
  exact ⟨_, _, rfl, rfl, .inr ⟨fun h => g2 h.2.1, by kernel_rfl⟩⟩
 repeat (first | refine gh g2 ?_ | refine gN fun _ => ?_ | refine gB fun _ => ?_ | fail)
 refine aC (o := k3) (h := ?_)
 rintro _ _ ⟨rfl, rfl⟩
 refine aG ?_
 rcases Classical.em (1 ≤ dp ∧ dp ≤ 8) with g3 | g3
 case' inr =>
  repeat (first | refine gh g3 ?_ | refine gN fun _ => ?_ | refine gB fun _ => ?_ | fail)
  refine W.order [] rfl ?_
  refine W.ret (fin _ _ (FinOk.first 0 (.tmp rfl (.tmp rfl .nil)) rfl ?_))
  exact ⟨_, _, rfl, rfl, .inr ⟨fun h => g3 h.2.2.1, by kernel_rfl⟩⟩
 repeat (first | refine gh g3 ?_ | refine gN fun _ => ?_ | refine gB fun _ => ?_ | fail)
 refine aC (o := k4) (h := ?_)
 rintro _ _ ⟨rfl, rfl⟩
 refine aG ?_
 rcases Classical.em (1 ≤ se ∧ se ≤ 1024) with g4 | g4
 case' inr =>
  repeat (first | refine gh g4 ?_ | refine gN fun _ => ?_ | refine gB fun _ => ?_ | fail)
  refine W.order [] rfl ?_
  refine W.ret (fin _ _ (FinOk.first 0 (.tmp rfl (.tmp rfl .nil)) rfl ?_))
  exact ⟨_, _, rfl, rfl, .inr ⟨fun h => g4 h.2.2.2.1, by kernel_rfl⟩⟩
 repeat (first | refine gh g4 ?_ | refine gN fun _ => ?_ | refine gB fun _ => ?_ | fail)
 refine aLp (fun k ρ1 L1 => ∃ i : Nat, i ≤ ps.length ∧ (∀ x ∈ ps.take i, x.Ok se) ∧ (ps.take i).Pairwise Apart ∧ k = ps.length - i ∧ ρ1 = [(32, .int .i64 (i : Int)), (31, .int .i64 (ps.length : Int)), (30, .slice a ps.length cap), (4, .int .i64 (sumq (ps.take i))), (1, .pointer (some ⟨b1, 0, none⟩))] ∧ L1 = [[(b1, .cells #[.int .i64 fr, .int .i64 dp, .int .i64 se, .slice a ps.length cap] 24 (0, 0))]]) (o := ⟨0, Nat.zero_le _, (by intro x hx; simp at hx), by simp, rfl, rfl, rfl⟩) (h := ?_)
 rintro k ρ1 L1 ⟨i, hi, hok, hpw, rfl, rfl, rfl⟩
 refine aG ?_
 rcases Classical.em ((i : Int) < (ps.length : Int)) with h | h
 case' inr =>
  have hil : i = ps.length := by omega
  subst hil
  rw [List.take_length]
  rcases Classical.em (sumq ps = fr) with g5 | g5
  ·
   repeat (first | refine gh (gc2 h g5) ?_ | refine gN fun _ => ?_ | refine gB fun _ => ?_ | fail)
   refine W.order [] rfl ?_
   refine W.ret (fin _ _ (FinOk.first 0 (.tmp rfl (.tmp rfl .nil)) rfl ?_))
   exact ⟨_, _, rfl, rfl, .inl ⟨⟨by omega, g2, g3, g4, ⟨hok, hpw⟩, g5⟩, rfl⟩⟩
  ·
   repeat (first | refine gh (gc2 h g5) ?_ | refine gN fun _ => ?_ | refine gB fun _ => ?_ | fail)
   refine W.order [] rfl ?_
   refine W.ret (fin _ _ (FinOk.first 0 (.tmp rfl (.tmp rfl .nil)) rfl ?_))
   exact ⟨_, _, rfl, rfl, .inr ⟨fun h => g5 h.2.2.2.2.2, by kernel_rfl⟩⟩
 have hlt : i < ps.length := by omega
 obtain ⟨bx, ox, lx, ex, frx, rfl, rfl, hld⟩ := cps_at hro hlt
 have hsq := sumq_succ hlt
 have hsb := sumq_bound hok
 have hlen : (ps.take i).length ≤ 16 := by rw [List.length_take]; omega
 have hmem : ∀ m, i < m → ps[i] ∈ ps.take m := fun m hm => List.mem_take_iff_getElem.2 ⟨i, by omega, rfl⟩
 repeat (first | refine gh h ?_ | refine gN fun _ => ?_ | refine gB fun _ => ?_ | fail)
 refine aV (OpVal.ixSl tab_ok rfl rfl rfl rfl rfl hlt) ?_
 refine aV (OpVal.load tab_ok rfl (at_ro 0 rfl) hld) ?_
 repeat (first | refine gx ?_ | refine gN fun _ => ?_ | refine gB fun _ => ?_ | fail)
 refine aC (o := hP ps[i] g4) (h := ?_)
 rintro _ _ ⟨s, rfl, rfl, hs⟩
 refine aG ?_
 repeat (first | refine gx ?_ | refine gN fun _ => ?_ | refine gB fun _ => ?_ | fail)
 refine aV (OpVal.neStr rfl rfl) ?_
 rcases hs with ⟨hx, rfl⟩ | ⟨hx, hs⟩
 case' inr =>
  refine aT ?_ (hb := by rw [hs]; rfl)
  refine W.order [] rfl ?_
  refine W.ret (fin _ _ (FinOk.first 0 (.tmp rfl (.tmp rfl .nil)) rfl ?_))
  refine ⟨_, _, rfl, rfl, .inr ⟨fun h => hx (h.2.2.2.2.1.1 _ (by rw [List.take_length]; exact List.getElem_mem hlt)), hs⟩⟩
 have hok2 : ∀ x ∈ ps.take (i + 1), x.Ok se := fun x hx2 => by
  rw [List.take_succ_eq_append_getElem hlt] at hx2
  rcases List.mem_append.1 hx2 with h | h
  · exact hok x h
  · rw [List.mem_singleton.1 h]; exact hx
 have hM2 := hM i hlt (by rw [List.length_take]; omega) g4.2 hok2
 rw [List.length_take, Nat.min_eq_left (by omega)] at hM2
 refine aF ?_ (hb := by rw [noStr]; rfl)
 repeat (first | refine gx ?_ | refine gN fun _ => ?_ | refine gB fun _ => ?_ | fail)
 rw [show (i : Int) + 1 = ((i + 1 : Nat) : Int) from rfl]
 refine aV (OpVal.front tab_ok rfl rfl rfl rfl rfl (show i + 1 ≤ cap by omega)) ?_
 refine aC (o := hM2) (h := ?_) (hro := RoIn.same)
 rintro _ _ ⟨j, rfl, rfl, hj⟩
 refine aG ?_
 rcases hj with ⟨hpw2, rfl⟩ | ⟨hnp, hj⟩
 case' inr =>
  repeat (first | refine gh hj ?_ | refine gN fun _ => ?_ | refine gB fun _ => ?_ | fail)
  refine W.order [] rfl ?_
  refine W.ret (fin _ _ (FinOk.first 0 (.tmp rfl (.tmp rfl .nil)) rfl ?_))
  refine ⟨_, _, rfl, rfl, .inr ⟨fun h => hnp ?_, by kernel_rfl⟩⟩
  have := h.2.2.2.2.1.2
  rw [List.take_length] at this
  exact this.sublist (List.take_sublist _ _)
 have hx2 := hx.1
 repeat (first | refine gx ?_ | refine gN fun _ => ?_ | refine gB fun _ => ?_ | fail)
 rw [← hsq]
 refine W.order [1] rfl ?_
 refine aR (o := ⟨ps.length - (i + 1), by omega, i + 1, hlt, hok2, hpw2, rfl, rfl, rfl⟩)
theorem CMay_spec (c : Cf) (hps : c.ps.length ≤ 9223372036854775807) (a : Option Addr) (cap : Nat) (hcap : c.ps.length ≤ cap) (ro : HL) (hro : RoSl 3 (cps c.ps) a c.ps.length ro) :
  Ctr Tryz.prog 206 [c.v a cap] [] ro (fun v L' => ∃ b, v = .bool b ∧ L' = [] ∧ (b = true ↔ c.Ok)) := by
 have hC := CCheck_spec c hps a cap hcap ro hro
 obtain ⟨fr, dp, se, ps⟩ := c
 simp only [Cf.v] at *
 refine Ctr.enter (n := 12) [.tmp 2] [(0, _)] Tryz.func206 rfl rfl rfl (lb rfl) Tryz.call206 ⟨rfl, trivial⟩ ?_
 intro cx fin fin0
 refine aG ?_
 repeat (first | refine gx ?_ | refine gN fun _ => ?_ | refine gB fun _ => ?_ | fail)
 refine aC (o := hC) (h := ?_)
 rintro _ _ ⟨s, i, rfl, rfl, hs⟩
 refine aG ?_
 repeat (first | refine gx ?_ | refine gN fun _ => ?_ | refine gB fun _ => ?_ | fail)
 refine aV (OpVal.eqStr rfl rfl) ?_
 repeat (first | refine gx ?_ | refine gN fun _ => ?_ | refine gB fun _ => ?_ | fail)
 refine W.order [] rfl ?_
 refine W.ret (fin _ _ (FinOk.first 0 (.tmp rfl .nil) rfl ?_))
 refine ⟨_, rfl, rfl, ?_⟩
 rcases hs with ⟨h, rfl⟩ | ⟨h, hs⟩
 · exact ⟨fun _ => h, fun _ => noStr⟩
 · rw [hs]; exact ⟨fun h => (by cases h), fun h2 => absurd h2 h⟩
theorem cps_one (l : List Cp) : allOne (cps l) = true := allOne_of fun v hv => by
 obtain ⟨x, -, hx⟩ := List.mem_flatMap.1 hv
 simp only [Cp.l, List.mem_cons, List.not_mem_nil, or_false] at hx
 rcases hx with rfl | rfl | rfl <;> rfl
theorem PsClone_spec (l : List Cp) (h1 : 1 ≤ l.length) (h2 : l.length ≤ 16) (a : Option Addr) (cap : Nat) (ro : HL) (hro : RoSl 3 (cps l) a l.length ro) :
  Ctr Tryz.prog 141 [.slice a l.length cap] [] ro (fun v L' => ∃ a' cap' H, v = .slice a' l.length cap' ∧ L' = [H] ∧ Own 3 92 (cps l) a' l.length cap' H) := by
 rcases hro.2 with ⟨h0, _⟩ | ⟨bx, ox, lx, ex, frx, rfl, rfl, hlx, hcx⟩
 · omega
 have hn : seg? lx ox (l.length * 3) = some (cps l) := by rw [seg?_of _ _ _ hlx, hcx]
 refine Ctr.enter (n := 8) [.tmp 2] [(0, _)] Tryz.func141 rfl rfl rfl (lb rfl) Tryz.call141 ⟨rfl, trivial⟩ ?_
 intro cx fin fin0
 refine aG ?_
 refine aV (OpVal.eqNilSl tab_ok rfl rfl rfl) ?_
 refine aF ?_ (hb := by rfl)
 refine aSl (ps := []) ?_
 intro bt
 refine aG ?_
 refine aAp (Own.exact (cs := []) bt rfl) ?_ (hn := hn) (h1 := (cps_one l))
 rintro _ _ ⟨a', cap', H', rfl, rfl, ho⟩
 refine aG ?_
 refine W.ret (fin _ _ (FinOk.first 1 (.tmp rfl .nil) rfl ?_))
 rw [Nat.zero_add] at ho
 refine ⟨a', cap', H', ?_, rfl, ho⟩
 rw [Nat.zero_add]
 rfl
theorem CClone_spec (c : Cf) (h1 : 1 ≤ c.ps.length) (h2 : c.ps.length ≤ 16) (a : Option Addr) (cap : Nat) (ro : HL) (hro : RoSl 3 (cps c.ps) a c.ps.length ro) :
  Ctr Tryz.prog 84 [c.v a cap] [] ro (fun v L' => ∃ a' cap' H, v = c.v a' cap' ∧ L' = [H] ∧ Own 3 92 (cps c.ps) a' c.ps.length cap' H) := by
 have hC := PsClone_spec c.ps h1 h2 a cap ro hro
 obtain ⟨fr, dp, se, ps⟩ := c
 simp only [Cf.v] at *
 refine Ctr.enter (n := 8) [.cell 2 24] [(0, _)] Tryz.func84 rfl rfl rfl (lb rfl) Tryz.call84 ⟨rfl, trivial⟩ ?_
 intro cx fin fin0
 refine aG ?_
 repeat (first | refine gx ?_ | refine gN fun _ => ?_ | refine gB fun _ => ?_ | fail)
 refine aC (o := hC) (h := ?_)
 rintro _ _ ⟨a', cap', H, rfl, rfl, ho⟩
 refine aG ?_
 repeat (first | refine gx ?_ | refine gN fun _ => ?_ | refine gB fun _ => ?_ | fail)
 refine W.order [0, 0] rfl ?_
 refine W.ret (fin _ _ (FinOk.first 1 (aRc .nil) rfl ?_))
 exact ⟨_, _, _, rfl, rfl, ho⟩
end Go.Proofs.YtfpghdcjdnifcaaGreat
namespace Go.Proofs.YtfpghdcjdnifcaaGreat
open Go Go.Sl Go.IntWalk
set_option maxHeartbeats 8000000
set_option maxRecDepth 20000
set_option linter.unusedVariables false
def le8 (n : Int) : List Int := [n % 256, n / 256 % 256, n / 65536 % 256, n / 16777216 % 256, n / 4294967296 % 256, n / 1099511627776 % 256, n / 281474976710656 % 256, n / 72057594037927936 % 256]
def les (l : List Int) : List Int := l.flatMap le8
def un8 : List Int → Int
 | [] => 0
 | c :: r => c + 256 * un8 r
def s64 (n : Int) : Int := if n < 9223372036854775808 then n else n - 18446744073709551616
theorem le8_len (n : Int) : (le8 n).length = 8 := rfl
theorem les_len : ∀ l : List Int, (les l).length = 8 * l.length
 | [] => rfl
 | n :: l => by
  have := les_len l
  unfold les at this ⊢
  rw [List.flatMap_cons, List.length_append, this, le8_len, List.length_cons]
  omega
theorem le8_ok (n : Int) : u8ok (le8 n) := by
 intro x hx
 simp only [le8, List.mem_cons, List.not_mem_nil, or_false] at hx
 rcases hx with rfl | rfl | rfl | rfl | rfl | rfl | rfl | rfl <;> constructor <;> omega
theorem un8_le8 {n : Int} (h : -9223372036854775808 ≤ n ∧ n < 9223372036854775808) : un8 (le8 n) = if n < 0 then n + 18446744073709551616 else n := by
 simp only [le8, un8]
 split <;> omega
theorem s64_le8 {n : Int} (h : -9223372036854775808 ≤ n ∧ n < 9223372036854775808) : s64 (un8 (le8 n)) = n := by
 rw [un8_le8 h]
 unfold s64
 split <;> split <;> omega
theorem un8_range : ∀ {l : List Int}, u8ok l → 0 ≤ un8 l ∧ un8 l < 256 ^ l.length
 | [], _ => by simp [un8]
 | c :: r, h => by
  have h1 := un8_range (l := r) (fun x hx => h x (List.mem_cons_of_mem _ hx))
  have h2 := h c (List.mem_cons_self ..)
  rw [un8, List.length_cons, Int.pow_succ]
  omega
structure Rd where
 b : List Int
 bad : Bool
def Rd.take (r : Rd) (n : Int) : List Int × Rd := if r.bad = true ∨ (r.b.length : Int) < n then ([], ⟨[], true⟩) else (r.b.take n.toNat, ⟨r.b.drop n.toNat, false⟩)
def Rd.uint (r : Rd) : Int × Rd := (un8 (r.take 8).1, (r.take 8).2)
def Rd.int (r : Rd) : Int × Rd := (s64 (un8 (r.take 8).1), (r.take 8).2)
def Rd.bytes (r : Rd) (most : Int) : List Int × Rd := if most < 0 ∨ most < r.uint.1 then (⟨[], true⟩ : Rd).take r.uint.1 else r.uint.2.take r.uint.1
def Rd.end_ (r : Rd) : Int := if 0 < r.b.length ∨ r.bad = true then 2 else 0
def reqBytes (c : Int × Int) (q : Rq) : List Int := les [c.1, c.2, q.op, q.page, q.off, q.len] ++ (le8 q.data.length ++ q.data)
def rdReq (b : List Int) : (Int × Int) × Rq × Int :=
 let a1 := (⟨b, false⟩ : Rd).int
 let a2 := a1.2.int
 let a3 := a2.2.int
 let a4 := a3.2.int
 let a5 := a4.2.int
 let a6 := a5.2.int
 let a7 := a6.2.bytes 32
 if a7.2.end_ ≠ 0 then ((0, 0), ⟨0, 0, 0, 0, []⟩, 2) else ((a1.1, a2.1), ⟨a3.1, a4.1, a5.1, a6.1, a7.1⟩, 0)
theorem int_le8 {n : Int} (h : -9223372036854775808 ≤ n ∧ n ≤ 9223372036854775807) (r : List Int) : (⟨le8 n ++ r, false⟩ : Rd).int = (n, ⟨r, false⟩) := by
 have e : (⟨le8 n ++ r, false⟩ : Rd).take 8 = (le8 n, ⟨r, false⟩) := by
  unfold Rd.take
  rw [if_neg (by simp only [List.length_append, le8_len]; simp; omega)]
  rfl
 unfold Rd.int
 rw [e]
 show (s64 (un8 (le8 n)), _) = _
 rw [s64_le8 ⟨h.1, by omega⟩]
def Rq.I (c : Int × Int) (q : Rq) : Prop := i64s c.1 ∧ i64s c.2 ∧ i64s q.op ∧ i64s q.page ∧ i64s q.off ∧ i64s q.len
theorem rdReq_bytes {c : Int × Int} {q : Rq} (h : Rq.I c q) (hl : q.data.length ≤ 32) (more : List Int) : rdReq (reqBytes c q ++ more) = if more = [] then (c, q, 0) else ((0, 0), ⟨0, 0, 0, 0, []⟩, 2) := by
 obtain ⟨h1, h2, h3, h4, h5, h6⟩ := h
 unfold i64s at *
 have e : reqBytes c q ++ more = le8 c.1 ++ (le8 c.2 ++ (le8 q.op ++ (le8 q.page ++ (le8 q.off ++ (le8 q.len ++ (le8 q.data.length ++ (q.data ++ more))))))) := by simp [reqBytes, les]
 have hb : (⟨le8 q.data.length ++ (q.data ++ more), false⟩ : Rd).bytes 32 = (q.data, ⟨more, false⟩) := by
  have e1 : (⟨le8 (q.data.length : Int) ++ (q.data ++ more), false⟩ : Rd).uint = ((q.data.length : Int), ⟨q.data ++ more, false⟩) := by
   unfold Rd.uint Rd.take
   rw [if_neg (by simp only [List.length_append, le8_len]; simp; omega)]
   show (un8 (le8 q.data.length), _) = _
   rw [un8_le8 (by omega), if_neg (by omega)]
   rfl
  unfold Rd.bytes
  rw [e1, if_neg (by simp only; omega)]
  unfold Rd.take
  rw [if_neg (by simp only [List.length_append]; simp; omega)]
  simp
 rw [e]
 unfold rdReq
 simp only [int_le8 h1, int_le8 h2, int_le8 h3, int_le8 h4, int_le8 h5, int_le8 h6, hb]
 unfold Rd.end_
 cases more with
 | nil => simp
 | cons x r => simp
end Go.Proofs.YtfpghdcjdnifcaaGreat
namespace Go.Proofs.YtfpghdcjdnifcaaGreat
open Go Go.Sl Go.IntWalk
set_option maxHeartbeats 8000000
set_option maxRecDepth 20000
set_option linter.unusedVariables false
theorem appFull {n : Nat} {R : HL} {cx : Cx} {ρ : Env} {L : List HL} {e m bytes : Nat} (hi : InfOk Tryz.prog e m bytes) {t ty : TypeId} {s x : Operand} {cs news : List Value} {a : Option Addr} {len nx cxx bx ox : Nat} {ro : HL}
  {lx : List Value} {ex : TypeId} {frx : Nat × Nat} (ht : Tryz.prog.underlying t = some (.slice e)) (hs : ev? ρ s = some (.slice a len len)) (ho : RoSl m cs a len ro)
  (hH : ∀ p ∈ ro, At R L p.1 p.2) (hx : ev? ρ x = some (.slice (some ⟨bx, ox, none⟩) nx cxx)) (hb : At R L bx (.cells lx.toArray ex frx)) (hn : seg? lx ox (nx * m) = some news)
  (h0 : 0 < nx) (hbig : (len + nx) * bytes ≤ 140737488355328) (hbig2 : len + nx ≤ 140737488355328) :
  Prim Tryz.prog n R cx (.call ⟨.builtin .append, #[s, x], #[t, t]⟩) ty ρ L [] (fun v L' => ∃ a' cap' H', v = .slice a' (len + nx) cap' ∧ L' = [H'] ∧ Own m e (cs ++ news) a' (len + nx) cap' H') := by
 obtain ⟨i, z, hi1, hi2, rfl, rfl, hi5, hi6⟩ := hi
 obtain ⟨hn1, hn2⟩ := seg?_eq lx ox (nx * i.size) hn
 have hnl : news.length = nx * i.size := by rw [hn2]; simp; omega
 refine ⟨fun oo ac w hoo hty hf hst => ?_⟩
 have hcell : ∀ j v, news[j]? = some v → w.cell? ((⟨bx, ox, none⟩ : Addr).add j) = some v := by
  intro j v hj
  rw [Addr.add_none', cell_of_row w bx (ox + j) _ ex frx (hb.heap hst)]
  have hjm : j < nx * i.size := by rw [← hnl]; exact (List.getElem?_eq_some_iff.1 hj).1
  rw [hn2, List.getElem?_take, if_pos hjm, List.getElem?_drop] at hj
  simpa using hj
 have hrun : ∀ r w', (Builtin.append_ #[t, t] oo.type #[.slice a len len, .slice (some ⟨bx, ox, none⟩) nx cxx]).run Tryz.prog w = .ok r w' → (execOp ac.eval oo).run Tryz.prog w = .ok (.value r) w' := by
  intro r w' hr
  unfold execOp
  rw [hoo]
  simp [resolve, invoke, builtin, hf.ev hs, hf.ev hx, hr]
 have grownL : ∀ old : Nat, Own i.size e (cs ++ news) (some ⟨w.heap.size, 0, none⟩) (len + nx) (grownCap w (len + nx) old e)
   [(w.heap.size, .cells (cs ++ news ++ (Builtin.zeroCells z.cells (grownCap w (len + nx) old e - (len + nx))).toList).toArray e (0, 0))] := by
  intro old
  have hge := grownCap_ge w (len + nx) old e
  have hlen : (cs ++ news).length = (len + nx) * i.size := by rw [List.length_append, ho.1, hnl, Nat.add_mul]
  refine ⟨hlen, .inr ⟨_, _, rfl, rfl, hge, ?_, ?_⟩⟩
  ·
   rw [List.length_append, hlen, zeroCells_len, hi5, ← Nat.add_mul]
   congr 1
   omega
  · rw [← hlen]; exact List.take_left
 cases a with
 | none =>
  have hl0 : len = 0 := by
   rcases ho.2 with ⟨h, -⟩ | ⟨_, _, _, _, _, h, _⟩
   · exact h
   · cases h
  subst hl0
  have hc0 : cs = [] := List.eq_nil_of_length_eq_zero (by simpa using ho.1)
  subst hc0
  have hr := run_append_nil (P := Tryz.prog) w t oo.type e i z ht hi1 hi2 ⟨bx, ox, none⟩ nx cxx news hnl hcell h0 (by omega) (by rw [Nat.zero_add] at hbig; omega)
  refine ⟨.slice (some ⟨w.heap.size, 0, none⟩) (0 + nx) (grownCap w (0 + nx) 0 e), [[(w.heap.size, .cells ([] ++ news ++ (Builtin.zeroCells z.cells (grownCap w (0 + nx) 0 e - (0 + nx))).toList).toArray e (0, 0))]],
   w.drew.alloc (.cells ([] ++ news ++ (Builtin.zeroCells z.cells (grownCap w (0 + nx) 0 e - (0 + nx))).toList).toArray e (0, 0)), hrun _ _ ?_, ⟨_, _, _, rfl, rfl, grownL 0⟩, St.fresh w _ _ _⟩
  rw [hr]
  simp only [Nat.zero_add, List.nil_append, Result.ok.injEq, true_and]
  congr 2
  apply Array.ext'
  simp
 | some ad =>
  have holds : ∀ j v, cs[j]? = some v → w.cell? (ad.add j) = some v := by
   intro j v hj
   rcases ho.2 with ⟨rfl, -⟩ | ⟨b, off, l, e', fr, hb', rfl, hl, htk⟩
   ·
    have hc0 : cs = [] := List.eq_nil_of_length_eq_zero (by simpa using ho.1)
    subst hc0
    cases hj
   ·
    cases hb'
    have hg := (hH (b, .cells (List.toArray l) e' fr) (by simp)).heap hst
    rw [Addr.add_none', cell_of_row w b (off + j) _ e' fr hg]
    rw [← htk, List.getElem?_take] at hj
    split at hj
    ·
     rw [List.getElem?_drop] at hj
     simpa using hj
    · cases hj
  have hr := run_append_grow (P := Tryz.prog) w t oo.type e i z ht hi1 hi2 ad len len cs ho.1 holds ⟨bx, ox, none⟩ nx cxx news hnl hcell (by omega) (by omega) (growslice_fits (by omega) hbig)
  refine ⟨.slice (some ⟨w.heap.size, 0, none⟩) (len + nx) (grownCap w (len + nx) len e), [[(w.heap.size, .cells (cs ++ news ++ (Builtin.zeroCells z.cells (grownCap w (len + nx) len e - (len + nx))).toList).toArray e (0, 0))]],
   w.drew.alloc (.cells (cs ++ news ++ (Builtin.zeroCells z.cells (grownCap w (len + nx) len e - (len + nx))).toList).toArray e (0, 0)), hrun _ _ ?_, ⟨_, _, _, rfl, rfl, grownL len⟩, St.fresh w _ _ _⟩
  rw [hr]
  simp only [Result.ok.injEq, true_and]
  congr 2
  apply Array.ext'
  simp
theorem fullSl {n : Nat} {R : HL} {cx : Cx} {ρ : Env} {L : List HL} {t e ty : TypeId} {x y z : Operand} {a : Option Addr} {len h cap m : Nat} {ag : Bool} {kk k2 : IntKind}
  (hx : ev? ρ x = some (.slice a len cap)) (ht : look? tab.sls t = some e) (hz : look? tab.tys e = some (ag, m)) (hy : ev? ρ y = some (.int kk (h : Int))) (hw : ev? ρ z = some (.int k2 (h : Int))) (h2 : h ≤ cap) :
  OpVal Tryz.prog n R cx (.slice t x none (some y) (some z)) ty ρ L (.slice a h h) := by
 refine ⟨fun oo ac w ho hty hf hs => ?_⟩
 have hu := tab_ok.sls _ (look?_mem ht)
 have hz' := (tab_ok.tys _ (look?_mem hz)).2
 unfold execOp; rw [ho]
 cases a <;> simp [Instr.sliceAt, Instr.slice, Instr.sliceBounds, Instr.sliceBound, asIntOf, underlying, hu, hf.ev hx, hf.ev hy, hf.ev hw, hz' w, h2, Addr.add]
theorem le8_chk (a : Nat) : le8 (a : Int) = chk a 8 := by
 simp only [le8, chk, List.nil_append, List.cons_append]
 refine List.ext_getElem rfl fun i h1 h2 => ?_
 have hi : i = 0 ∨ i = 1 ∨ i = 2 ∨ i = 3 ∨ i = 4 ∨ i = 5 ∨ i = 6 ∨ i = 7 := by simp at h1; omega
 rcases hi with rfl | rfl | rfl | rfl | rfl | rfl | rfl | rfl <;> simp <;> omega
theorem le8_wrap (n : Int) : le8 (n + 18446744073709551616) = le8 n := by
 refine List.ext_getElem rfl fun i h1 h2 => ?_
 have hi : i = 0 ∨ i = 1 ∨ i = 2 ∨ i = 3 ∨ i = 4 ∨ i = 5 ∨ i = 6 ∨ i = 7 := by simp [le8] at h1; omega
 rcases hi with rfl | rfl | rfl | rfl | rfl | rfl | rfl | rfl <;> simp only [le8, List.getElem_cons_zero, List.getElem_cons_succ] <;> omega
theorem LUint_spec (bs : List Int) (hl : bs.length ≤ 1000000) (a : Option Addr) (cap : Nat) (hcap : bs.length ≤ cap) (ro : HL) (hro : RoSl 1 (u8s bs) a bs.length ro) (x : Nat) (hx : x < 18446744073709551616) :
  Ctr Tryz.prog 207 [.slice a bs.length cap, .int .u64 (x : Int)] [] ro (fun v L' => ∃ a' cap' H, v = .slice a' (bs ++ le8 (x : Int)).length cap' ∧ L' = [H] ∧ Own 1 5 (u8s (bs ++ le8 (x : Int))) a' (bs ++ le8 (x : Int)).length cap' H) := by
 rw [le8_chk]
 have hinf : InfOk Tryz.prog 5 1 1 := tab_ok.infs _ (look?_mem (show look? tab.infs 5 = some (1, 1) from rfl))
 refine Ctr.enter (n := 25) [.tmp 4] [(0, _), (1, _)] Tryz.func207 rfl rfl rfl (lb rfl) Tryz.call207 ⟨rfl, rfl, trivial⟩ ?_
 intro cx fin fin0
 refine aG ?_
 repeat (first | refine gx ?_ | refine gN fun _ => ?_ | refine gB fun _ => ?_ | fail)
 refine aV (fullSl rfl rfl rfl rfl rfl hcap) ?_
 refine W.nilChunk ?_
 refine aLp (fun k ρ1 L1 => ∃ (j : Nat) (a1 : Option Addr) (c1 : Nat) (H1 : HL), j ≤ 8 ∧ k = 8 - j ∧ ((j = 0 ∧ a1 = a ∧ c1 = bs.length ∧ H1 = []) ∨ (1 ≤ j ∧ Own 1 5 (u8s (bs ++ chk x j)) a1 (bs.length + j) c1 H1)) ∧ ρ1 = [(12, .int .i64 (j : Int)), (1, .int .u64 (x : Int)), (0, .slice a1 (bs.length + j) c1)] ∧ L1 = [H1]) (o := ⟨0, a, bs.length, [], by decide, rfl, .inl ⟨rfl, rfl, rfl, rfl⟩, rfl, rfl⟩) (h := ?_)
 rintro k ρ1 L1 ⟨j, a1, c1, H1, hj, rfl, hcs, rfl, rfl⟩
 refine aG ?_
 by_cases hlt : j < 8
 ·
  have hz : (j : Int) < 8 := by omega
  have e1 : x / 2 ^ (8 * j) = x / 256 ^ j := by rw [Nat.pow_mul]
  repeat (first | refine gh hz ?_ | refine gN fun _ => ?_ | refine gB fun _ => ?_ | fail)
  refine aV (OpVal.mul (r := ((8 * j : Nat) : Int)) rfl rfl (by rw [i64_in _ (by omega)]; omega)) ?_
  refine aV (OpVal.shrN (a := x) (c := 8 * j) rfl rfl rfl rfl (by show 8 * j ≤ 64; omega)) ?_
  rw [e1]
  refine aV (OpVal.conv tab_ok rfl rfl rfl (u8mod (x / 256 ^ j))) ?_
  refine aSl (ps := [_]) ?_
  intro bt
  refine aG ?_
  rcases hcs with ⟨rfl, rfl, rfl, rfl⟩ | ⟨h1j, how⟩
  ·
   refine aPr (appFull hinf Tryz.underlying54 rfl hro (fun q hq => .inr hq) rfl (at_own 0 rfl) rfl (by decide) (by omega) (by omega)) ?_
   rintro _ _ ⟨a2, c2, H2, rfl, rfl, ho⟩
   refine aG ?_
   have e2 : u8s bs ++ [.int .u8 ((x / 256 ^ 0 % 256 : Nat) : Int)] = u8s (bs ++ chk x 1) := by
    rw [show chk x 1 = [((x / 256 ^ 0 % 256 : Nat) : Int)] from rfl, u8s_append bs]
    rfl
   rw [e2] at ho
   repeat (first | refine gh hz ?_ | refine gN fun _ => ?_ | refine gB fun _ => ?_ | fail)
   refine W.order [0] rfl ?_
   refine aR (o := ⟨7, by omega, 1, _, _, _, by omega, rfl, .inr ⟨Nat.le_refl _, ho⟩, rfl, rfl⟩)
  ·
   refine aAp (how) ?_
   rintro _ _ ⟨_, _, _, rfl, rfl, ho⟩
   refine aG ?_
   have e2 : u8s (bs ++ chk x j) ++ [.int .u8 ((x / 256 ^ j % 256 : Nat) : Int)] = u8s (bs ++ chk x (j + 1)) := by
    rw [show chk x (j + 1) = chk x j ++ [((x / 256 ^ j % 256 : Nat) : Int)] from rfl, ← List.append_assoc, u8s_append (bs ++ chk x j)]
    rfl
   rw [e2] at ho
   repeat (first | refine gh hz ?_ | refine gN fun _ => ?_ | refine gB fun _ => ?_ | fail)
   refine aR (o := ⟨8 - (j + 1), by omega, j + 1, _, _, _, by omega, rfl, .inr ⟨by omega, ho⟩, rfl, rfl⟩)
 ·
  obtain rfl : j = 8 := by omega
  rcases hcs with ⟨h, -⟩ | ⟨-, how⟩
  · cases h
  repeat (first | refine gx ?_ | refine gN fun _ => ?_ | refine gB fun _ => ?_ | fail)
  refine W.ret (fin _ _ (FinOk.first 1 (.tmp rfl .nil) rfl ?_))
  exact ⟨_, _, _, by rw [List.length_append, chk_len]; rfl, rfl, by rw [List.length_append, chk_len]; exact how⟩
theorem les_ok (l : List Int) : u8ok (les l) := fun x hx => by
 obtain ⟨n, -, hn⟩ := List.mem_flatMap.1 hx
 exact le8_ok n x hn
theorem les_append (a b : List Int) : les (a ++ b) = les a ++ les b := by simp [les]
theorem u64_of {x : Int} (h : i64s x) : ∃ u : Nat, IntKind.u64.wrap x = (u : Int) ∧ u < 18446744073709551616 ∧ le8 (u : Int) = le8 x := by
 obtain ⟨h1, h2⟩ := h
 rcases Int.lt_or_le x 0 with h0 | h0
 ·
  refine ⟨(x + 18446744073709551616).toNat, ?_, by omega, ?_⟩
  · rw [IntKind.wrap_u64]; omega
  · rw [show (((x + 18446744073709551616).toNat : Nat) : Int) = x + 18446744073709551616 from by omega, le8_wrap]
 ·
  refine ⟨x.toNat, ?_, by omega, by rw [show ((x.toNat : Nat) : Int) = x from by omega]⟩
  rw [IntKind.wrap_u64]; omega
def Kpt (bs : List Int) (a : Option Addr) (c : Nat) (H ro : HL) : Prop := bs.length ≤ c ∧ ∃ r, RoSl 1 (u8s bs) a bs.length r ∧ ∀ q ∈ r, q ∈ H ∨ q ∈ ro
theorem Kpt.own {bs : List Int} {a : Option Addr} {c : Nat} {H ro : HL} (h : Own 1 5 (u8s bs) a bs.length c H) : Kpt bs a c H ro := by
 refine ⟨?_, H, Own.roSl h, fun q hq => .inl hq⟩
 rcases h.2 with ⟨_, h1, h2, _⟩ | ⟨_, _, _, _, h1, _⟩ <;> omega
theorem LInts_spec (bs : List Int) (hl : bs.length ≤ 10000) (a : Option Addr) (cap : Nat) (hcap : bs.length ≤ cap) (ro : HL) (hro : RoSl 1 (u8s bs) a bs.length ro) (xs : List Int) (h1 : 1 ≤ xs.length) (h2 : xs.length ≤ 1000) (hx : ∀ x ∈ xs, i64s x) (ax : Option Addr) (cx0 : Nat) (rx : HL) (hrx : RoSl 1 (ints xs) ax xs.length rx) :
  Ctr Tryz.prog 139 [.slice a bs.length cap, .slice ax xs.length cx0] [] (ro ++ rx) (fun v L' => ∃ a' cap' H, v = .slice a' (bs ++ les xs).length cap' ∧ L' = [H] ∧ Own 1 5 (u8s (bs ++ les xs)) a' (bs ++ les xs).length cap' H) := by
 have hk0 : Kpt bs a bs.length [] ro := ⟨Nat.le_refl _, ro, hro, fun q hq => .inr hq⟩
 refine Ctr.enter (n := 25) [.tmp 4] [(0, _), (1, _)] Tryz.func139 rfl rfl rfl (lb rfl) Tryz.call139 ⟨rfl, rfl, trivial⟩ ?_
 intro cx fin fin0
 refine aG ?_
 repeat (first | refine gx ?_ | refine gN fun _ => ?_ | refine gB fun _ => ?_ | fail)
 refine aV (fullSl rfl rfl rfl rfl rfl hcap) ?_
 refine W.nilChunk ?_
 refine aLp (fun k ρ1 L1 => ∃ (j : Nat) (cs : List Int) (a1 : Option Addr) (c1 : Nat) (H1 : HL), j ≤ xs.length ∧ k = xs.length - j ∧ cs = bs ++ les (xs.take j) ∧ Kpt cs a1 c1 H1 ro ∧ (1 ≤ j → Own 1 5 (u8s cs) a1 cs.length c1 H1) ∧ ρ1 = [(15, .int .i64 (j : Int)), (14, .int .i64 (xs.length : Int)), (13, .slice ax xs.length cx0), (0, .slice a1 cs.length c1)] ∧ L1 = [H1]) (o := ⟨0, bs, a, bs.length, [], Nat.zero_le _, rfl, by simp [les], hk0, by intro h; omega, rfl, rfl⟩) (h := ?_)
 rintro k ρ1 L1 ⟨j, cs, a1, c1, H1, hj, rfl, hcs, ⟨hc1, r1, hr1, hs1⟩, how, rfl, rfl⟩
 refine aG ?_
 by_cases hlt : j < xs.length
 ·
  have hz : (j : Int) < (xs.length : Int) := by omega
  obtain ⟨bx, ox, lx, ex, frx, rfl, rfl, -, hld⟩ := RoSl.at (f := fun x : Int => [Value.int .i64 x]) (m := 1) (fun _ => rfl) hrx hlt
  have l0 : lx[ox + j * 1]? = some (.int .i64 xs[j]) := hld 0 (by decide)
  have hnx : xs.take (j + 1) = xs.take j ++ [xs[j]] := List.take_succ_eq_append_getElem hlt
  obtain ⟨u, e1, hu, e2⟩ := u64_of (hx _ (List.getElem_mem hlt))
  have hln : cs.length ≤ 1000000 := by rw [hcs, List.length_append, les_len, List.length_take]; omega
  have hU := LUint_spec cs hln a1 c1 hc1 r1 hr1 u hu
  have e3 : cs ++ le8 (u : Int) = bs ++ les (xs.take (j + 1)) := by rw [hcs, hnx, les_append, e2, List.append_assoc]; simp [les]
  generalize cs ++ le8 (u : Int) = cs2 at *
  generalize xs[j] = x at *
  repeat (first | refine gh hz ?_ | refine gN fun _ => ?_ | refine gB fun _ => ?_ | fail)
  refine aV (OpVal.ixSl tab_ok rfl rfl rfl rfl rfl hlt) ?_
  refine aV (OpVal.load tab_ok rfl (.inr (List.mem_append_right _ (List.mem_singleton.2 rfl))) l0) ?_
  repeat (first | refine gx ?_ | refine gN fun _ => ?_ | refine gB fun _ => ?_ | fail)
  refine aV (OpVal.conv tab_ok rfl rfl rfl e1) ?_
  refine aC (o := hU) (h := ?_) (hro := (fun q hq => (hs1 q hq).elim (fun h => .inl (by simp [h])) (fun h => .inr (List.mem_append_left _ h))))
  rintro _ _ ⟨a2, c2, H2, rfl, rfl, ho⟩
  refine aG ?_
  repeat (first | refine gh hz ?_ | refine gN fun _ => ?_ | refine gB fun _ => ?_ | fail)
  refine W.order [0] rfl ?_
  refine aR (o := ⟨xs.length - (j + 1), by omega, j + 1, cs2, _, _, _, hlt, rfl, e3, Kpt.own ho, (by intro _; exact ho), rfl, rfl⟩)
 ·
  obtain rfl : j = xs.length := by omega
  rw [List.take_length] at hcs
  have ho := how h1
  subst hcs
  repeat (first | refine gx ?_ | refine gN fun _ => ?_ | refine gB fun _ => ?_ | fail)
  refine W.ret (fin _ _ (FinOk.first 1 (.tmp rfl .nil) rfl ?_))
  exact ⟨_, _, _, rfl, rfl, ho⟩
theorem SNewS_spec (n : Nat) (h1 : 1 ≤ n) (h2 : n ≤ 16) : Ctr Tryz.prog 87 [.int .i64 (n : Int)] [] [] (fun v L' => ∃ b, v = .tuple #[.pointer (some ⟨b, 0, none⟩), .int .i64 0] ∧ L' = [[(b, .cells #[.int .i64 (n : Int)] 238 (0, 0))]]) := by
 have k1 : ¬ (n : Int) < 1 := by omega
 have k2 : ¬ (n : Int) > 16 := by omega
 refine Ctr.enter (n := 13) [.tmp 2, .tmp 3] [(0, _)] Tryz.func87 rfl rfl rfl (lb rfl) Tryz.call87 ⟨rfl, trivial⟩ ?_
 intro cx fin fin0
 refine aG ?_
 repeat (first | refine gh (gc2 k1 k2) ?_ | refine gN fun _ => ?_ | refine gB fun _ => ?_ | fail)
 refine aBu (ps := [_]) ?_
 repeat (first | refine gx ?_ | refine gN fun _ => ?_ | refine gB fun _ => ?_ | fail)
 refine W.ret (fin _ _ (FinOk.first 1 (.tmp rfl (.tmp rfl .nil)) rfl ?_))
 exact ⟨_, rfl, rfl⟩
def supV (e : Int) (c : Cf) (a : Option Addr) (n : Nat) : Value := .agg #[.int .i64 e, .int .i64 c.fr, .int .i64 c.dp, .int .i64 c.se, .slice a c.ps.length n]
def SupOk (e : Int) (c : Cf) : Prop := (1 ≤ e ∧ e ≤ 1073741824) ∧ c.Ok
theorem SupMay_spec (e : Int) (c : Cf) (hps : c.ps.length ≤ 9223372036854775807) (a : Option Addr) (cap : Nat) (hcap : c.ps.length ≤ cap) (ro : HL) (hro : RoSl 3 (cps c.ps) a c.ps.length ro) :
  Ctr Tryz.prog 138 [supV e c a cap] [] ro (fun v L' => ∃ b, v = .bool b ∧ L' = [] ∧ (b = true ↔ SupOk e c)) := by
 have hC := CMay_spec c hps a cap hcap ro hro
 unfold SupOk
 obtain ⟨fr, dp, se, ps⟩ := c
 simp only [Cf.v, supV] at *
 refine Ctr.enter (n := 16) [.tmp 2] [(0, _)] Tryz.func138 rfl rfl rfl (lb rfl) Tryz.call138 ⟨rfl, trivial⟩ ?_
 intro cx fin fin0
 refine aG ?_
 repeat (first | refine gx ?_ | refine gN fun _ => ?_ | refine gB fun _ => ?_ | fail)
 by_cases k1 : 1 ≤ e
 ·
  by_cases k2 : e ≤ 1073741824
  ·
   repeat (first | refine gh (gc2 k1 k2) ?_ | refine gN fun _ => ?_ | refine gB fun _ => ?_ | fail)
   refine aC (o := hC) (h := ?_)
   rintro _ _ ⟨b, rfl, rfl, hb⟩
   refine aG ?_
   repeat (first | refine gh (gc2 k1 k2) ?_ | refine gN fun _ => ?_ | refine gB fun _ => ?_ | fail)
   refine W.order [] rfl ?_
   refine W.ret (fin _ _ (FinOk.first 0 (.tmp rfl .nil) rfl ?_))
   exact ⟨_, rfl, rfl, hb.trans ⟨fun h => ⟨⟨k1, k2⟩, h⟩, fun h => h.2⟩⟩
  ·
   repeat (first | refine gh (gc2 k1 k2) ?_ | refine gN fun _ => ?_ | refine gB fun _ => ?_ | fail)
   refine W.order [] rfl ?_
   refine W.ret (fin _ _ (FinOk.first 0 (.tmp rfl .nil) rfl ?_))
   exact ⟨_, rfl, rfl, ⟨fun h => by simp at h, fun h => absurd h.1.2 k2⟩⟩
 ·
  repeat (first | refine gh k1 ?_ | refine gN fun _ => ?_ | refine gB fun _ => ?_ | fail)
  refine W.order [] rfl ?_
  refine W.ret (fin _ _ (FinOk.first 0 (.tmp rfl .nil) rfl ?_))
  exact ⟨_, rfl, rfl, ⟨fun h => by simp at h, fun h => absurd h.1.1 k1⟩⟩
def supPs (l : List Cp) : List Int := l.flatMap fun x => les [x.q, x.b, x.p]
def supBody (e : Int) (c : Cf) : List Int := les [1, e, c.fr, c.dp, c.se, c.ps.length] ++ supPs c.ps
def supB (e : Int) (c : Cf) : List Int := sealB (supBody e c)
theorem supPs_len (l : List Cp) : (supPs l).length = 24 * l.length := by
 induction l with
 | nil => rfl
 | cons x l ih =>
  unfold supPs at ih ⊢
  rw [List.flatMap_cons, List.length_append, ih, les_len, List.length_cons]
  simp
  omega
theorem supBody_len (e : Int) (c : Cf) : (supBody e c).length = 48 + 24 * c.ps.length := by
 unfold supBody
 rw [List.length_append, supPs_len, les_len]
 rfl
theorem supBody_ok (e : Int) (c : Cf) : u8ok (supBody e c) := fun x hx => by
 rcases List.mem_append.1 hx with h | h
 · exact les_ok _ x h
 ·
  obtain ⟨y, -, hy⟩ := List.mem_flatMap.1 h
  exact les_ok _ x hy
theorem supPs_succ {l : List Cp} {j : Nat} (h : j < l.length) : supPs (l.take (j + 1)) = supPs (l.take j) ++ les [l[j].q, l[j].b, l[j].p] := by
 unfold supPs
 rw [List.take_succ_eq_append_getElem h, List.flatMap_append]
 simp only [List.flatMap_cons, List.flatMap_nil, List.append_nil]
theorem SupWrite_spec (e : Int) (he : i64s e) (c : Cf) (hin : c.In) (hps : c.ps.length ≤ 9223372036854775807) (a : Option Addr) (cap : Nat) (hcap : c.ps.length ≤ cap) (ro : HL) (hro : RoSl 3 (cps c.ps) a c.ps.length ro) :
  Ctr Tryz.prog 83 [supV e c a cap] [] ro (fun v L' => (¬ SupOk e c ∧ v = .tuple #[.slice none 0 0, .int .i64 3] ∧ L' = []) ∨
   (SupOk e c ∧ ∃ a' cap' H, v = .tuple #[.slice a' (supB e c).length cap', .int .i64 0] ∧ L' = [H] ∧ Own 1 5 (u8s (supB e c)) a' (supB e c).length cap' H)) := by
 have hM := SupMay_spec e c hps a cap hcap ro hro
 have hI1 := fun bt (h16 : c.ps.length ≤ 16) => LInts_spec [] (by decide) none 0 (by decide) [] ⟨rfl, .inl ⟨rfl, rfl⟩⟩ [1, e, c.fr, c.dp, c.se, c.ps.length] (by simp) (by simp) (by
  intro x hx
  simp only [List.mem_cons, List.not_mem_nil, or_false] at hx
  rcases hx with rfl | rfl | rfl | rfl | rfl | rfl
  · exact ⟨by decide, by decide⟩
  · exact he
  · exact hin.fr
  · exact hin.dp
  · exact hin.se
  · exact ⟨by omega, by omega⟩) (some ⟨bt, 0, none⟩) 6 [(bt, .cells #[.int .i64 1, .int .i64 e, .int .i64 c.fr, .int .i64 c.dp, .int .i64 c.se, .int .i64 (c.ps.length : Int)] 3 (0, 0))] ⟨rfl, .inr ⟨bt, 0, _, _, _, rfl, rfl, Nat.le_refl _, rfl⟩⟩
 have hP := fun a' cap' r' hr' => Put_spec (supBody e c) (supBody_ok e c) a' cap' r' hr'
 have hbl := supBody_len e c
 have hbd : supBody e c = les [1, e, c.fr, c.dp, c.se, c.ps.length] ++ supPs c.ps := rfl
 unfold supB
 generalize supBody e c = body at *
 have h16 : SupOk e c → c.ps.length ≤ 16 := fun h => h.2.len.2
 generalize SupOk e c = okP at *
 obtain ⟨fr, dp, se, ps⟩ := c
 simp only [supV, List.nil_append] at *
 refine Ctr.enter (n := 47) [.tmp 2, .tmp 3] [(0, _)] Tryz.func83 rfl rfl rfl (lb rfl) Tryz.call83 ⟨rfl, trivial⟩ ?_
 intro cx fin fin0
 refine aG ?_
 repeat (first | refine gx ?_ | refine gN fun _ => ?_ | refine gB fun _ => ?_ | fail)
 rename_i b1
 refine aC (o := hM) (h := ?_)
 rintro _ _ ⟨b, rfl, rfl, hb⟩
 refine aG ?_
 cases b with
 | false =>
  repeat (first | refine gx ?_ | refine gN fun _ => ?_ | refine gB fun _ => ?_ | fail)
  refine W.order [] rfl ?_
  refine W.ret (fin _ _ (FinOk.first 0 (.tmp rfl (.tmp rfl .nil)) rfl ?_))
  exact .inl ⟨fun h => by simpa using hb.2 h, rfl, rfl⟩
 | true =>
  have hok := hb.1 rfl
  have hl16 := h16 hok
  repeat (first | refine gx ?_ | refine gN fun _ => ?_ | refine gB fun _ => ?_ | fail)
  refine aSl (ps := [_, _, _, _, _, _]) ?_
  intro bt
  refine aG ?_
  refine aC (o := hI1 bt hl16) (h := ?_) (hro := RoIn.append RoIn.nil (RoIn.own 0 rfl))
  rintro _ _ ⟨a1, c1, H1, rfl, rfl, ho1⟩
  refine aG ?_
  repeat (first | refine gx ?_ | refine gN fun _ => ?_ | refine gB fun _ => ?_ | fail)
  refine aLp (fun k ρ1 L1 => ∃ (j : Nat) (cs : List Int) (a1 : Option Addr) (c1 : Nat) (H1 : HL), j ≤ ps.length ∧ k = ps.length - j ∧ cs = les [1, e, fr, dp, se, ps.length] ++ supPs (ps.take j) ∧ Own 1 5 (u8s cs) a1 cs.length c1 H1 ∧ ρ1 = [(31, .int .i64 (j : Int)), (30, .int .i64 (ps.length : Int)), (29, .slice a ps.length cap), (4, .slice a1 cs.length c1)] ∧ L1 = [H1]) (o := ⟨0, les [1, e, fr, dp, se, ps.length], a1, c1, H1, Nat.zero_le _, rfl, by simp [supPs], ho1, rfl, rfl⟩) (h := ?_)
  rintro k ρ1 L1 ⟨j, cs, a1, c1, H1, hj, rfl, hcs, ho, rfl, rfl⟩
  refine aG ?_
  by_cases hlt : j < ps.length
  ·
   have hz : (j : Int) < (ps.length : Int) := by omega
   obtain ⟨bx, ox, lx, ex, frx, rfl, rfl, hld⟩ := cps_at hro hlt
   have hxin := hin.ps _ (List.getElem_mem hlt)
   have hcl : cs.length = 48 + 24 * j := by rw [hcs, List.length_append, supPs_len, les_len, List.length_take]; simp; omega
   have hnx : cs ++ les [ps[j].q, ps[j].b, ps[j].p] = les [1, e, fr, dp, se, ps.length] ++ supPs (ps.take (j + 1)) := by rw [hcs, supPs_succ hlt, List.append_assoc]
   have hI2 := fun bt => LInts_spec cs (by omega) a1 c1 (Kpt.own (ro := []) ho).1 H1 (Own.roSl ho) [ps[j].q, ps[j].b, ps[j].p] (by simp) (by simp) (by
    intro x hx
    simp only [List.mem_cons, List.not_mem_nil, or_false] at hx
    rcases hx with rfl | rfl | rfl
    · exact hxin.1
    · exact hxin.2.1
    · exact hxin.2.2) (some ⟨bt, 0, none⟩) 3 [(bt, .cells #[.int .i64 ps[j].q, .int .i64 ps[j].b, .int .i64 ps[j].p] 3 (0, 0))] ⟨rfl, .inr ⟨bt, 0, _, _, _, rfl, rfl, Nat.le_refl _, rfl⟩⟩
   generalize cs ++ les [ps[j].q, ps[j].b, ps[j].p] = cs2 at *
   generalize ps[j] = x at *
   repeat (first | refine gh hz ?_ | refine gN fun _ => ?_ | refine gB fun _ => ?_ | fail)
   refine aV (OpVal.ixSl tab_ok rfl rfl rfl rfl rfl hlt) ?_
   refine aV (OpVal.load tab_ok rfl (at_ro 0 rfl) hld) ?_
   repeat (first | refine gx ?_ | refine gN fun _ => ?_ | refine gB fun _ => ?_ | fail)
   refine aSl (ps := [_, _, _]) ?_
   intro bt
   refine aG ?_
   refine aC (o := hI2 bt) (h := ?_) (hro := RoIn.append (RoIn.own 2 rfl) (RoIn.own 0 rfl))
   rintro _ _ ⟨a2, c2, H2, rfl, rfl, ho2⟩
   refine aG ?_
   repeat (first | refine gh hz ?_ | refine gN fun _ => ?_ | refine gB fun _ => ?_ | fail)
   refine W.order [0] rfl ?_
   refine aR (o := ⟨ps.length - (j + 1), by omega, j + 1, _, _, _, _, hlt, rfl, hnx, ho2, rfl, rfl⟩)
  ·
   obtain rfl : j = ps.length := by omega
   rw [List.take_length, ← hbd] at hcs
   subst hcs
   repeat (first | refine gx ?_ | refine gN fun _ => ?_ | refine gB fun _ => ?_ | fail)
   refine aC (o := hP a1 c1 H1 (Own.roSl ho) (by omega)) (h := ?_) (hro := RoIn.own 0 rfl)
   rintro _ _ ⟨a2, c2, H2, rfl, rfl, ho2⟩
   refine aG ?_
   repeat (first | refine gx ?_ | refine gN fun _ => ?_ | refine gB fun _ => ?_ | fail)
   refine W.order [0] rfl ?_
   refine W.ret (fin _ _ (FinOk.first 1 (.tmp rfl (.tmp rfl .nil)) rfl ?_))
   exact .inr ⟨hok, _, _, _, rfl, rfl, ho2⟩
end Go.Proofs.YtfpghdcjdnifcaaGreat
namespace Go.Proofs.YtfpghdcjdnifcaaGreat
open Go Go.Sl Go.IntWalk
set_option maxHeartbeats 8000000
set_option maxRecDepth 20000
set_option linter.unusedVariables false
theorem OpVal.shlN {n : Nat} {R : HL} {cx : Cx} {ρ : Env} {L : List HL} {t t' ty : TypeId} {x y : Operand} {kk k2 : IntKind} {i j r : Int} {c : Nat} (hx : ev? ρ x = some (.int kk i)) (hy : ev? ρ y = some (.int k2 j)) (hj : j = c) (hc : c ≤ kk.bits) (hr : kk.wrap (i * 2 ^ c) = r) :
  OpVal Tryz.prog n R cx (.binOp .shl t x y t') ty ρ L (.int kk r) := by
 refine ⟨fun oo ac w hoo hty hf hs => ?_⟩
 subst hj hr
 have hm : min c kk.bits = c := Nat.min_eq_left hc
 have hn : ¬ ((c : Int) < 0) := by omega
 unfold execOp; rw [hoo]
 simp only [hf.ev hx, hf.ev hy, eqGuard, binOp, Op.shift, if_neg hn, Int.toNat_natCast, hm]
 rfl
def RdAt (r : Rd) (b : Nat) (D H : HL) : Prop := ∃ (a : Option Addr) (c : Nat) (rr : HL), H = [(b, Obj.cells (List.toArray [.slice a r.b.length c, .bool r.bad]) 364 (0, 0))] ∧ r.b.length ≤ c ∧ RoSl 1 (u8s r.b) a r.b.length rr ∧ ∀ q ∈ rr, q ∈ D
def OutIn (bs : List Int) (v : Value) (D : HL) : Prop := ∃ (a : Option Addr) (c : Nat) (rr : HL), v = .slice a bs.length c ∧ bs.length ≤ c ∧ RoSl 1 (u8s bs) a bs.length rr ∧ ∀ q ∈ rr, q ∈ D
theorem OutIn.nil (D : HL) : OutIn [] (.slice none 0 0) D := ⟨none, 0, [], rfl, Nat.le_refl _, ⟨rfl, .inl ⟨rfl, rfl⟩⟩, fun _ h => (by cases h)⟩
theorem Rtake_spec (r : Rd) (hl : r.b.length ≤ 1000000) (b : Nat) (D H : HL) (h : RdAt r b D H) (n : Int) (h0 : 0 ≤ n) :
  Ctr Tryz.prog 246 [.pointer (some ⟨b, 0, none⟩), .int .u64 n] [H] D (fun v L' => ∃ H', L' = [H'] ∧ OutIn (r.take n).1 v D ∧ RdAt (r.take n).2 b D H') := by
 obtain ⟨a, c, rr, rfl, hc, hr, hsub⟩ := h
 obtain ⟨bs, bad⟩ := r
 simp only at *
 have hw : IntKind.u64.wrap (bs.length : Int) = (bs.length : Int) := by rw [IntKind.wrap_u64]; omega
 unfold Rd.take
 simp only
 have hbad : ∀ L' v, (v = .slice none 0 0 ∧ ∃ H', L' = [H'] ∧ H' = [(b, Obj.cells (List.toArray [.slice none 0 0, .bool true]) 364 (0, 0))]) → ∃ H', L' = [H'] ∧ OutIn [] v D ∧ RdAt ⟨[], true⟩ b D H' := by
  rintro L' v ⟨rfl, H', rfl, rfl⟩
  exact ⟨_, rfl, OutIn.nil D, none, 0, [], rfl, Nat.le_refl _, ⟨rfl, .inl ⟨rfl, rfl⟩⟩, fun _ h => (by cases h)⟩
 cases bad with
 | true =>
  rw [if_pos (.inl rfl)]
  refine Ctr.enter (n := 43) [.tmp 4] [(0, _), (1, _)] Tryz.func246 rfl rfl rfl (lb rfl) Tryz.call246 ⟨rfl, rfl, trivial⟩ ?_
  intro cx fin fin0
  refine aG ?_
  repeat (first | refine gx ?_ | refine gN fun _ => ?_ | refine gB fun _ => ?_ | fail)
  refine W.ret (fin _ _ (FinOk.first 1 (.tmp rfl .nil) rfl ?_))
  exact hbad _ _ ⟨rfl, _, rfl, rfl⟩
 | false =>
  rcases Classical.em ((bs.length : Int) < n) with hlt | hlt
  ·
   rw [if_pos (.inr hlt)]
   have hgt : n > (bs.length : Int) := hlt
   refine Ctr.enter (n := 43) [.tmp 4] [(0, _), (1, _)] Tryz.func246 rfl rfl rfl (lb rfl) Tryz.call246 ⟨rfl, rfl, trivial⟩ ?_
   intro cx fin fin0
   refine aG ?_
   repeat (first | refine gx ?_ | refine gN fun _ => ?_ | refine gB fun _ => ?_ | fail)
   refine aV (OpVal.conv tab_ok rfl rfl rfl hw) ?_
   repeat (first | refine gh hgt ?_ | refine gN fun _ => ?_ | refine gB fun _ => ?_ | fail)
   refine W.ret (fin _ _ (FinOk.first 1 (.tmp rfl .nil) rfl ?_))
   exact hbad _ _ ⟨rfl, _, rfl, rfl⟩
  ·
   rw [if_neg (by simp [hlt])]
   have hgt : ¬ n > (bs.length : Int) := hlt
   obtain ⟨k, rfl⟩ : ∃ k : Nat, n = (k : Int) := ⟨n.toNat, by omega⟩
   have hk : k ≤ bs.length := by omega
   refine Ctr.enter (n := 43) [.tmp 4] [(0, _), (1, _)] Tryz.func246 rfl rfl rfl (lb rfl) Tryz.call246 ⟨rfl, rfl, trivial⟩ ?_
   intro cx fin fin0
   refine aG ?_
   repeat (first | refine gx ?_ | refine gN fun _ => ?_ | refine gB fun _ => ?_ | fail)
   refine aV (OpVal.conv tab_ok rfl rfl rfl hw) ?_
   repeat (first | refine gh hgt ?_ | refine gN fun _ => ?_ | refine gB fun _ => ?_ | fail)
   refine aV (fullSl rfl rfl rfl rfl rfl (show k ≤ c by omega)) ?_
   repeat (first | refine gx ?_ | refine gN fun _ => ?_ | refine gB fun _ => ?_ | fail)
   refine aV (OpVal.back (l := k) tab_ok rfl rfl rfl rfl rfl hk hc) ?_
   repeat (first | refine gx ?_ | refine gN fun _ => ?_ | refine gB fun _ => ?_ | fail)
   refine W.ret (fin _ _ (FinOk.first 1 (.tmp rfl .nil) rfl ?_))
   rw [Int.toNat_natCast]
   have hlt1 : (bs.take k).length = k := by rw [List.length_take]; omega
   have hld : (bs.drop k).length = bs.length - k := List.length_drop
   refine ⟨_, rfl, ⟨a, k, rr, by rw [hlt1]; rfl, Nat.le_of_eq hlt1, by rw [hlt1]; exact RoSl.take (f := fun x => [Value.int .u8 x]) (fun _ => rfl) hr k hk, hsub⟩, ⟨_, c - k, rr, by rw [hld], by rw [hld]; omega, ?_, hsub⟩⟩
   rcases RoSl.drop (f := fun x => [Value.int .u8 x]) (m := 1) (cap := c) (fun _ => rfl) hr k hk with h | h
   · rw [hld]; exact h
   · omega
theorem take8_len (r : Rd) : (r.take 8).1.length = 0 ∨ (r.take 8).1.length = 8 := by
 unfold Rd.take
 split
 · exact .inl rfl
 ·
  rename_i h
  right
  simp only [List.length_take]
  have : ¬ (r.b.length : Int) < 8 := fun h2 => h (.inr h2)
  omega
theorem take_ok {r : Rd} (h : u8ok r.b) (n : Int) : u8ok (r.take n).1 ∧ u8ok (r.take n).2.b ∧ (r.take n).2.b.length ≤ r.b.length := by
 unfold Rd.take
 split
 · exact ⟨(by intro x hx; cases hx), (by intro x hx; cases hx), Nat.zero_le _⟩
 · exact ⟨fun x hx => h x (List.mem_of_mem_take hx), fun x hx => h x (List.mem_of_mem_drop hx), by simp only [List.length_drop]; omega⟩
theorem un8_snoc : ∀ (l : List Int) (c : Int), un8 (l ++ [c]) = un8 l + 256 ^ l.length * c
 | [], c => by simp [un8]
 | x :: l, c => by
  rw [List.cons_append, un8, un8, un8_snoc l c, List.length_cons, Int.pow_succ, Int.mul_add]
  rw [Int.mul_comm (256 ^ l.length) 256, Int.mul_assoc]
  omega
theorem or_high {x c j : Nat} (hx : x < 256 ^ j) : x ||| (c * 2 ^ (8 * j)) = x + c * 256 ^ j := by
 have e : (2 : Nat) ^ (8 * j) = 256 ^ j := by rw [Nat.pow_mul]
 have := Nat.two_pow_add_eq_or_of_lt (i := 8 * j) (b := x) (by rw [e]; exact hx) c
 rw [Nat.or_comm, Nat.mul_comm c, ← this, e]
 rw [Nat.mul_comm c]; omega
theorem RUint_spec (r : Rd) (hu : u8ok r.b) (hl : r.b.length ≤ 1000000) (b : Nat) (D H : HL) (h : RdAt r b D H) :
  Ctr Tryz.prog 245 [.pointer (some ⟨b, 0, none⟩)] [H] D (fun v L' => ∃ H', v = .int .u64 r.uint.1 ∧ L' = [H'] ∧ RdAt r.uint.2 b D H') := by
 have hT := Rtake_spec r hl b D H h 8 (by decide)
 have h8 := take8_len r
 have ho := (take_ok hu 8).1
 unfold Rd.uint
 generalize r.take 8 = out at *
 obtain ⟨os, r2⟩ := out
 simp only at *
 refine Ctr.enter (n := 23) [.tmp 2] [(0, _)] Tryz.func245 rfl rfl rfl (lb rfl) Tryz.call245 ⟨rfl, trivial⟩ ?_
 intro cx fin fin0
 refine aG ?_
 repeat (first | refine gx ?_ | refine gN fun _ => ?_ | refine gB fun _ => ?_ | fail)
 refine aC (o := hT) (h := ?_) (hro := RoIn.same)
 rintro _ _ ⟨H2, rfl, ⟨a, c, rr, rfl, hc, hr, hsub⟩, h2⟩
 refine aG ?_
 repeat (first | refine gx ?_ | refine gN fun _ => ?_ | refine gB fun _ => ?_ | fail)
 refine aLp (fun k ρ1 L1 => ∃ (j x : Nat), j ≤ os.length ∧ k = os.length - j ∧ (x : Int) = un8 (os.take j) ∧ x < 256 ^ j ∧ ρ1 = [(9, .int .i64 (j : Int)), (8, .int .i64 (os.length : Int)), (7, .slice a os.length c), (3, .int .u64 (x : Int))] ∧ L1 = [H2]) (o := ⟨0, 0, Nat.zero_le _, rfl, rfl, by decide, rfl, rfl⟩) (h := ?_)
 rintro k ρ1 L1 ⟨j, x, hj, rfl, hx, hxb, rfl, rfl⟩
 refine aG ?_
 by_cases hlt : j < os.length
 ·
  have hz : (j : Int) < (os.length : Int) := by omega
  obtain ⟨bx, ox, lx, ex, frx, rfl, rfl, -, hld⟩ := RoSl.at (f := fun x : Int => [Value.int .u8 x]) (m := 1) (fun _ => rfl) hr hlt
  have l0 : lx[ox + j * 1]? = some (.int .u8 os[j]) := hld 0 (by decide)
  have hnx : os.take (j + 1) = os.take j ++ [os[j]] := List.take_succ_eq_append_getElem hlt
  have hcx := ho _ (List.getElem_mem hlt)
  have hj8 : j < 8 := by omega
  obtain ⟨y, hy⟩ : ∃ y : Nat, os[j] = (y : Int) := ⟨os[j].toNat, by omega⟩
  rw [hy] at hcx l0 hnx
  have hp : (256 : Nat) ^ j * 256 ≤ 18446744073709551616 := by
   rw [← Nat.pow_succ]
   exact Nat.le_trans (Nat.pow_le_pow_right (by decide) (show j + 1 ≤ 8 by omega)) (by decide)
  have hyb : y * 256 ^ j ≤ 255 * 256 ^ j := Nat.mul_le_mul_right _ (by omega)
  have hun : ((x + y * 256 ^ j : Nat) : Int) = un8 (os.take (j + 1)) := by
   rw [hnx, un8_snoc, ← hx, List.length_take, Nat.min_eq_left (by omega)]
   push_cast
   rw [Int.mul_comm]
  have hpw : (256 : Nat) ^ (j + 1) = 256 ^ j * 256 := Nat.pow_succ 256 j
  have e1 : IntKind.u64.wrap ((y : Int) * 2 ^ (8 * j)) = ((y * 2 ^ (8 * j) : Nat) : Int) := by
   have e : (2 : Nat) ^ (8 * j) = 256 ^ j := by rw [Nat.pow_mul]
   have e2 : (y : Int) * 2 ^ (8 * j) = ((y * 256 ^ j : Nat) : Int) := by rw [← e]; push_cast; rfl
   rw [e2, e, IntKind.wrap_u64]
   omega
  have e4 : (2 : Nat) ^ (8 * j) = 256 ^ j := by rw [Nat.pow_mul]
  have hor := or_high (c := y) hxb
  repeat (first | refine gh hz ?_ | refine gN fun _ => ?_ | refine gB fun _ => ?_ | fail)
  refine aV (OpVal.ixSl tab_ok rfl rfl rfl rfl rfl hlt) ?_
  refine aV (OpVal.load tab_ok rfl (.inr (hsub _ (List.mem_singleton.2 rfl))) l0) ?_
  repeat (first | refine gx ?_ | refine gN fun _ => ?_ | refine gB fun _ => ?_ | fail)
  refine aV (OpVal.conv tab_ok rfl rfl rfl (show IntKind.u64.wrap (y : Int) = (y : Int) by rw [IntKind.wrap_u64]; omega)) ?_
  refine aV (OpVal.mul (r := ((8 * j : Nat) : Int)) rfl rfl (by rw [i64_in _ (by omega)]; omega)) ?_
  refine aV (OpVal.shlN (c := 8 * j) rfl rfl rfl (by show 8 * j ≤ 64; omega) e1) ?_
  refine aV (OpVal.bitsN (a := x) (b := y * 2 ^ (8 * j)) (r := x ||| (y * 2 ^ (8 * j))) rfl rfl rfl rfl (by show x < 2 ^ 64; omega) (by show y * 2 ^ (8 * j) < 2 ^ 64; rw [e4]; omega) (by rw [hor, IntKind.wrap_u64]; omega) (.inr (.inr ⟨rfl, rfl⟩))) ?_
  rw [hor]
  repeat (first | refine gh hz ?_ | refine gN fun _ => ?_ | refine gB fun _ => ?_ | fail)
  refine aR (o := ⟨os.length - (j + 1), by omega, j + 1, x + y * 256 ^ j, hlt, rfl, hun, by rw [hpw]; omega, rfl, rfl⟩)
 ·
  obtain rfl : j = os.length := by omega
  rw [List.take_length] at hx
  repeat (first | refine gx ?_ | refine gN fun _ => ?_ | refine gB fun _ => ?_ | fail)
  refine W.ret (fin _ _ (FinOk.first 1 (.tmp rfl .nil) rfl ?_))
  exact ⟨_, by rw [← hx]; rfl, rfl, h2⟩
theorem uint_range {r : Rd} (hu : u8ok r.b) : 0 ≤ r.uint.1 ∧ r.uint.1 < 18446744073709551616 := by
 have h1 := un8_range (take_ok hu 8).1
 unfold Rd.uint
 rcases take8_len r with h | h <;> rw [h] at h1 <;> simp at h1 ⊢ <;> omega
theorem RInt_spec (r : Rd) (hu : u8ok r.b) (hl : r.b.length ≤ 1000000) (b : Nat) (D H : HL) (h : RdAt r b D H) :
  Ctr Tryz.prog 203 [.pointer (some ⟨b, 0, none⟩)] [H] D (fun v L' => ∃ H', v = .int .i64 r.int.1 ∧ L' = [H'] ∧ RdAt r.int.2 b D H') := by
 have hU := RUint_spec r hu hl b D H h
 have hr := uint_range hu
 have e : r.int = (s64 r.uint.1, r.uint.2) := rfl
 rw [e]
 have e1 : IntKind.i64.wrap r.uint.1 = s64 r.uint.1 := by unfold s64; rw [IntKind.wrap_i64]; split <;> omega
 generalize r.uint = u at *
 refine Ctr.enter (n := 6) [.tmp 2] [(0, _)] Tryz.func203 rfl rfl rfl (lb rfl) Tryz.call203 ⟨rfl, trivial⟩ ?_
 intro cx fin fin0
 refine aG ?_
 repeat (first | refine gx ?_ | refine gN fun _ => ?_ | refine gB fun _ => ?_ | fail)
 refine aC (o := hU) (h := ?_) (hro := RoIn.same)
 rintro _ _ ⟨H2, rfl, rfl, h2⟩
 refine aG ?_
 repeat (first | refine gx ?_ | refine gN fun _ => ?_ | refine gB fun _ => ?_ | fail)
 refine aV (OpVal.conv tab_ok rfl rfl rfl e1) ?_
 refine W.ret (fin _ _ (FinOk.first 1 (.tmp rfl .nil) rfl ?_))
 exact ⟨_, rfl, rfl, h2⟩
theorem uint_len {r : Rd} (hu : u8ok r.b) : u8ok r.uint.2.b ∧ r.uint.2.b.length ≤ r.b.length := (take_ok hu 8).2
theorem RBytes_spec (r : Rd) (hu : u8ok r.b) (hl : r.b.length ≤ 1000000) (b : Nat) (D H : HL) (h : RdAt r b D H) (most : Int) (hm : 0 ≤ most ∧ most ≤ 1000000) :
  Ctr Tryz.prog 204 [.pointer (some ⟨b, 0, none⟩), .int .i64 most] [H] D (fun v L' => ∃ H', L' = [H'] ∧ OutIn (r.bytes most).1 v D ∧ RdAt (r.bytes most).2 b D H') := by
 have hU := RUint_spec r hu hl b D H h
 have hr := uint_range hu
 have h2 := uint_len hu
 unfold Rd.bytes
 have hT1 := fun H' h' => Rtake_spec ⟨[], true⟩ (by decide) b D H' h' r.uint.1 hr.1
 have hT2 := fun H' h' => Rtake_spec r.uint.2 (by omega) b D H' h' r.uint.1 hr.1
 have hw : IntKind.u64.wrap most = most := by rw [IntKind.wrap_u64]; omega
 generalize r.uint = u at *
 obtain ⟨n, r2⟩ := u
 simp only at *
 have k0 : ¬ most < 0 := by omega
 rcases Classical.em (n > most) with hgt | hgt
 ·
  rw [if_pos (.inr hgt)]
  refine Ctr.enter (n := 25) [.tmp 4] [(0, _), (1, _)] Tryz.func204 rfl rfl rfl (lb rfl) Tryz.call204 ⟨rfl, rfl, trivial⟩ ?_
  intro cx fin fin0
  refine aG ?_
  repeat (first | refine gx ?_ | refine gN fun _ => ?_ | refine gB fun _ => ?_ | fail)
  refine aC (o := hU) (h := ?_) (hro := RoIn.same)
  rintro _ _ ⟨H2, rfl, rfl, a, c, rr, rfl, hc, hrr, hsub⟩
  refine aG ?_
  repeat (first | refine gh k0 ?_ | refine gN fun _ => ?_ | refine gB fun _ => ?_ | fail)
  refine aV (OpVal.conv tab_ok rfl rfl rfl hw) ?_
  repeat (first | refine gh (gc2 k0 hgt) ?_ | refine gN fun _ => ?_ | refine gB fun _ => ?_ | fail)
  refine aC (o := hT1 _ ⟨none, 0, [], rfl, Nat.le_refl _, ⟨rfl, .inl ⟨rfl, rfl⟩⟩, (by intro _ h; cases h)⟩) (h := ?_) (hro := RoIn.same)
  rintro _ _ ⟨H3, rfl, ho, h3⟩
  refine aG ?_
  repeat (first | refine gx ?_ | refine gN fun _ => ?_ | refine gB fun _ => ?_ | fail)
  refine W.ret (fin _ _ (FinOk.first 1 (.tmp rfl .nil) rfl ?_))
  exact ⟨_, rfl, ho, h3⟩
 ·
  rw [if_neg (by omega)]
  refine Ctr.enter (n := 25) [.tmp 4] [(0, _), (1, _)] Tryz.func204 rfl rfl rfl (lb rfl) Tryz.call204 ⟨rfl, rfl, trivial⟩ ?_
  intro cx fin fin0
  refine aG ?_
  repeat (first | refine gx ?_ | refine gN fun _ => ?_ | refine gB fun _ => ?_ | fail)
  refine aC (o := hU) (h := ?_) (hro := RoIn.same)
  rintro _ _ ⟨H2, rfl, rfl, hrd⟩
  refine aG ?_
  repeat (first | refine gh k0 ?_ | refine gN fun _ => ?_ | refine gB fun _ => ?_ | fail)
  refine aV (OpVal.conv tab_ok rfl rfl rfl hw) ?_
  repeat (first | refine gh (gc2 k0 hgt) ?_ | refine gN fun _ => ?_ | refine gB fun _ => ?_ | fail)
  refine aC (o := hT2 _ hrd) (h := ?_) (hro := RoIn.same)
  rintro _ _ ⟨H3, rfl, ho, h3⟩
  refine aG ?_
  repeat (first | refine gx ?_ | refine gN fun _ => ?_ | refine gB fun _ => ?_ | fail)
  refine W.ret (fin _ _ (FinOk.first 1 (.tmp rfl .nil) rfl ?_))
  exact ⟨_, rfl, ho, h3⟩
theorem RErr_spec (r : Rd) (b : Nat) (D H : HL) (h : RdAt r b D H) : Ctr Tryz.prog 247 [.pointer (some ⟨b, 0, none⟩)] [] H (fun v L' => v = .int .i64 (if r.bad = true then 2 else 0) ∧ L' = []) := by
 obtain ⟨a, c, rr, rfl, hc, hr, hsub⟩ := h
 obtain ⟨bs, bad⟩ := r
 cases bad with
 | true =>
  refine Ctr.enter (n := 7) [.tmp 2] [(0, _)] Tryz.func247 rfl rfl rfl (lb rfl) Tryz.call247 ⟨rfl, trivial⟩ ?_
  intro cx fin fin0
  refine aG ?_
  repeat (first | refine gx ?_ | refine gN fun _ => ?_ | refine gB fun _ => ?_ | fail)
  refine W.ret (fin _ _ (FinOk.first 0 (.tmp rfl .nil) rfl ?_))
  exact ⟨rfl, rfl⟩
 | false =>
  refine Ctr.enter (n := 7) [.tmp 2] [(0, _)] Tryz.func247 rfl rfl rfl (lb rfl) Tryz.call247 ⟨rfl, trivial⟩ ?_
  intro cx fin fin0
  refine aG ?_
  repeat (first | refine gx ?_ | refine gN fun _ => ?_ | refine gB fun _ => ?_ | fail)
  refine W.ret (fin _ _ (FinOk.first 0 (.tmp rfl .nil) rfl ?_))
  exact ⟨rfl, rfl⟩
theorem REnd_spec (r : Rd) (b : Nat) (D H : HL) (h : RdAt r b D H) : Ctr Tryz.prog 205 [.pointer (some ⟨b, 0, none⟩)] [] H (fun v L' => v = .int .i64 r.end_ ∧ L' = []) := by
 have hE := RErr_spec r b D H h
 obtain ⟨a, c, rr, rfl, hc, hr, hsub⟩ := h
 obtain ⟨bs, bad⟩ := r
 simp only at *
 unfold Rd.end_
 simp only
 rcases Classical.em ((bs.length : Int) > 0) with h0 | h0
 ·
  rw [if_pos (.inl (by omega))]
  refine Ctr.enter (n := 11) [.tmp 2] [(0, _)] Tryz.func205 rfl rfl rfl (lb rfl) Tryz.call205 ⟨rfl, trivial⟩ ?_
  intro cx fin fin0
  refine aG ?_
  repeat (first | refine gh h0 ?_ | refine gN fun _ => ?_ | refine gB fun _ => ?_ | fail)
  refine W.ret (fin _ _ (FinOk.first 0 (.tmp rfl .nil) rfl ?_))
  exact ⟨rfl, rfl⟩
 ·
  have e : (if 0 < bs.length ∨ bad = true then (2 : Int) else 0) = if bad = true then 2 else 0 := by
   have : ¬ 0 < bs.length := by omega
   simp [this]
  rw [e]
  refine Ctr.enter (n := 11) [.tmp 2] [(0, _)] Tryz.func205 rfl rfl rfl (lb rfl) Tryz.call205 ⟨rfl, trivial⟩ ?_
  intro cx fin fin0
  refine aG ?_
  repeat (first | refine gh h0 ?_ | refine gN fun _ => ?_ | refine gB fun _ => ?_ | fail)
  refine aC (o := hE) (h := ?_) (hro := RoIn.same)
  rintro _ _ ⟨rfl, rfl⟩
  refine aG ?_
  repeat (first | refine gx ?_ | refine gN fun _ => ?_ | refine gB fun _ => ?_ | fail)
  refine W.ret (fin _ _ (FinOk.first 0 (.tmp rfl .nil) rfl ?_))
  exact ⟨rfl, rfl⟩
theorem LRead_spec (bs : List Int) (hl : bs.length ≤ 1000000) (a : Option Addr) (cap : Nat) (ro : HL) (hro : RoSl 1 (u8s bs) a bs.length ro) :
  Ctr Tryz.prog 202 [.slice a bs.length cap] [] ro (fun v L' => ∃ b H D, v = .pointer (some ⟨b, 0, none⟩) ∧ L' = [H, D] ∧ RdAt ⟨bs, false⟩ b D H) := by
 refine Ctr.enter (n := 7) [.tmp 2] [(0, _)] Tryz.func202 rfl rfl rfl (lb rfl) Tryz.call202 ⟨rfl, trivial⟩ ?_
 intro cx fin fin0
 refine aG ?_
 refine W.nilChunk ?_
 refine aPr (appU8 (xs := []) tab_ok rfl rfl rfl (Own.nil 1 _) (by intro p hp; cases hp) rfl hro (fun q hq => .inr hq) (by simp; omega) (by simp; omega)) ?_
 rintro _ _ ⟨a2, c2, D, rfl, rfl, ho⟩
 refine aG ?_
 rw [List.nil_append] at ho
 refine aBu (ps := [_]) ?_
 repeat (first | refine gx ?_ | refine gN fun _ => ?_ | refine gB fun _ => ?_ | fail)
 refine W.ret (fin _ _ (FinOk.first 2 (.tmp rfl .nil) rfl ?_))
 exact ⟨_, _, _, rfl, rfl, a2, c2, D, rfl, (Kpt.own (ro := []) ho).1, Own.roSl ho, fun q hq => hq⟩
def capV (c : Int × Int) : Value := .agg #[.int .i64 c.1, .int .i64 c.2]
theorem rdInt_ok {r : Rd} (h : u8ok r.b ∧ r.b.length ≤ 1000000) : u8ok r.int.2.b ∧ r.int.2.b.length ≤ 1000000 := by
 have := uint_len h.1
 exact ⟨this.1, by have := this.2; show r.uint.2.b.length ≤ _; omega⟩
theorem QRead_spec (bs : List Int) (hu : u8ok bs) (hl : bs.length ≤ 1000000) (a : Option Addr) (cap : Nat) (ro : HL) (hro : RoSl 1 (u8s bs) a bs.length ro) :
  Ctr Tryz.prog 135 [.slice a bs.length cap] [] ro (fun v L' => ∃ a' c' rr D, v = .tuple #[capV (rdReq bs).1, (rdReq bs).2.1.v a' c', .int .i64 (rdReq bs).2.2] ∧ L' = [D] ∧ RoSl 1 (u8s (rdReq bs).2.1.data) a' (rdReq bs).2.1.data.length rr ∧ ∀ q ∈ rr, q ∈ D) := by
 have hL := LRead_spec bs hl a cap ro hro
 have k1 : u8ok (⟨bs, false⟩ : Rd).b ∧ (⟨bs, false⟩ : Rd).b.length ≤ 1000000 := ⟨hu, hl⟩
 unfold rdReq
 have i1 := RInt_spec _ k1.1 k1.2
 have k2 := rdInt_ok k1
 have i2 := RInt_spec _ k2.1 k2.2
 have k3 := rdInt_ok k2
 have i3 := RInt_spec _ k3.1 k3.2
 have k4 := rdInt_ok k3
 have i4 := RInt_spec _ k4.1 k4.2
 have k5 := rdInt_ok k4
 have i5 := RInt_spec _ k5.1 k5.2
 have k6 := rdInt_ok k5
 have i6 := RInt_spec _ k6.1 k6.2
 have k7 := rdInt_ok k6
 have i7 := fun b D H h => RBytes_spec _ k7.1 k7.2 b D H h 32 (by decide)
 have i8 := REnd_spec ((⟨bs, false⟩ : Rd).int.2.int.2.int.2.int.2.int.2.int.2.bytes 32).2
 clear k2 k3 k4 k5 k6 k7
 simp only
 generalize (⟨bs, false⟩ : Rd).int = a1 at *
 obtain ⟨x1, r1⟩ := a1
 simp only at *
 generalize r1.int = a2 at *
 obtain ⟨x2, r2⟩ := a2
 simp only at *
 generalize r2.int = a3 at *
 obtain ⟨x3, r3⟩ := a3
 simp only at *
 generalize r3.int = a4 at *
 obtain ⟨x4, r4⟩ := a4
 simp only at *
 generalize r4.int = a5 at *
 obtain ⟨x5, r5⟩ := a5
 simp only at *
 generalize r5.int = a6 at *
 obtain ⟨x6, r6⟩ := a6
 simp only at *
 generalize r6.bytes 32 = a7 at *
 obtain ⟨x7, r7⟩ := a7
 simp only at *
 have he : r7.end_ = 0 ∨ r7.end_ = 2 := by unfold Rd.end_; split <;> simp
 generalize r7.end_ = e at *
 refine Ctr.enter (n := 36) [.cell 2 33, .cell 3 63, .tmp 4] [(0, _)] Tryz.func135 rfl rfl rfl (lb rfl) Tryz.call135 ⟨rfl, trivial⟩ ?_
 intro cx fin fin0
 refine aG ?_
 repeat (first | refine gx ?_ | refine gN fun _ => ?_ | refine gB fun _ => ?_ | fail)
 refine aC (o := hL) (h := ?_)
 rintro _ _ ⟨br, H, D, rfl, rfl, h⟩
 refine aG ?_
 repeat (first | refine gx ?_ | refine gN fun _ => ?_ | refine gB fun _ => ?_ | fail)
 refine aC (o := i1 br D H h) (h := ?_) (hro := RoIn.own 0 rfl)
 rintro _ _ ⟨H, rfl, rfl, h⟩
 refine aG ?_
 repeat (first | refine gx ?_ | refine gN fun _ => ?_ | refine gB fun _ => ?_ | fail)
 refine aC (o := i2 br D H h) (h := ?_) (hro := RoIn.own 0 rfl)
 rintro _ _ ⟨H, rfl, rfl, h⟩
 refine aG ?_
 refine aBu (ps := [_, _]) ?_
 repeat (first | refine gx ?_ | refine gN fun _ => ?_ | refine gB fun _ => ?_ | fail)
 refine aC (o := i3 br D H h) (h := ?_) (hro := RoIn.own 1 rfl)
 rintro _ _ ⟨H, rfl, rfl, h⟩
 refine aG ?_
 repeat (first | refine gx ?_ | refine gN fun _ => ?_ | refine gB fun _ => ?_ | fail)
 refine aC (o := i4 br D H h) (h := ?_) (hro := RoIn.own 1 rfl)
 rintro _ _ ⟨H, rfl, rfl, h⟩
 refine aG ?_
 repeat (first | refine gx ?_ | refine gN fun _ => ?_ | refine gB fun _ => ?_ | fail)
 refine aC (o := i5 br D H h) (h := ?_) (hro := RoIn.own 1 rfl)
 rintro _ _ ⟨H, rfl, rfl, h⟩
 refine aG ?_
 repeat (first | refine gx ?_ | refine gN fun _ => ?_ | refine gB fun _ => ?_ | fail)
 refine aC (o := i6 br D H h) (h := ?_) (hro := RoIn.own 1 rfl)
 rintro _ _ ⟨H, rfl, rfl, h⟩
 refine aG ?_
 repeat (first | refine gx ?_ | refine gN fun _ => ?_ | refine gB fun _ => ?_ | fail)
 refine aC (o := i7 br D H h) (h := ?_) (hro := RoIn.own 1 rfl)
 rintro _ _ ⟨H, rfl, ⟨a2, c2, rr, rfl, hc, hr, hsub⟩, h⟩
 refine aG ?_
 refine aBu (ps := [_, _, _, _, _]) ?_
 repeat (first | refine gx ?_ | refine gN fun _ => ?_ | refine gB fun _ => ?_ | fail)
 refine aC (o := i8 br D H h) (h := ?_) (hro := RoIn.own 1 rfl)
 rintro _ _ ⟨rfl, rfl⟩
 refine aG ?_
 rcases Classical.em (e = 0) with g | g
 ·
  repeat (first | refine gh g ?_ | refine gN fun _ => ?_ | refine gB fun _ => ?_ | fail)
  refine W.drawH tab_ok 4 [.b false, .b false, .b true, .b true] [5,4] follows (by decide +kernel) (by decide +kernel) rfl (by decide) rfl ?_
  intro _
  refine dG ?_
  refine gdx ?_
  refine WD.nil (W.dropNil (aG ?_))
  repeat (first | refine gx ?_ | refine gN fun _ => ?_ | refine gB fun _ => ?_ | fail)
  refine W.groupV [5] rfl ?_
  refine W.ret (fin _ _ (FinOk.first 1 (aRc (aRc (.tmp rfl .nil))) rfl ?_))
  rw [if_neg (fun h => h g)]
  exact ⟨a2, c2, rr, D, rfl, rfl, hr, hsub⟩
 ·
  repeat (first | refine gh g ?_ | refine gN fun _ => ?_ | refine gB fun _ => ?_ | fail)
  refine aBu (ps := []) ?_
  repeat (first | refine gx ?_ | refine gN fun _ => ?_ | refine gB fun _ => ?_ | fail)
  refine aBu (ps := []) ?_
  repeat (first | refine gx ?_ | refine gN fun _ => ?_ | refine gB fun _ => ?_ | fail)
  refine W.groupV [3] rfl ?_
  refine W.ret (fin _ _ (FinOk.first 1 (aRc (aRc (.tmp rfl .nil))) rfl ?_))
  rw [if_pos g]
  obtain rfl : e = 2 := he.resolve_left g
  exact ⟨none, 0, [], D, rfl, rfl, ⟨rfl, .inl ⟨rfl, rfl⟩⟩, fun _ h => (by cases h)⟩
end Go.Proofs.YtfpghdcjdnifcaaGreat
