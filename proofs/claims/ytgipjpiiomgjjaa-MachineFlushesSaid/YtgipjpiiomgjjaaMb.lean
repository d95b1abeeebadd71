/-
  The machine of the program: fetch, dirty, flush, discard, stored.
-/
import Derived.Test.YtgipjpiiomgjjaaMa
namespace Go.Proofs.Ytgipjpiiomgjjaa
open Go Go.Sl Go.IntWalk
set_option maxHeartbeats 8000000
set_option maxRecDepth 20000
structure Rq where
  op : Int
  page : Int
  off : Int
  len : Int
  data : List Int
def Rq.v (q : Rq) (a : Option Addr) (c : Nat) : Value := .agg #[.int .i64 q.op, .int .i64 q.page, .int .i64 q.off, .int .i64 q.len, .slice a q.data.length c]
/-- A fetch of a page that is not there. -/
def mMiss (m : Mc) (p : Pt) : Mc × Pt × Re := match p.victim.2 with
  | none => (m, p.victim.1, ⟨true, 7, false, [], ⟨0, 1, 0, 0, 0, 0⟩⟩)
  | some i => (⟨m.op, m.page, (i : Int), planFetch m.page (p.victim.1.at_ i).dirty (p.victim.1.at_ i).page, m.got⟩,
      if (p.victim.1.at_ i).used = true ∧ (p.victim.1.at_ i).dirty = false then (p.victim.1.release i).1 else p.victim.1,
      ⟨false, 0, false, [], ⟨0, 1, if (p.victim.1.at_ i).used = true ∧ (p.victim.1.at_ i).dirty = false then 1 else 0, 0, 0, 0⟩⟩)
def mFetch (m : Mc) (p : Pt) : Mc × Pt × Re :=
  if (mget p.tbl m.page).isSome = true then (m, (p.doPage m.page Fr.pin).1, if (p.doPage m.page Fr.pin).2 = 0 then ⟨true, 0, true, [], ⟨1, 0, 0, 0, 0, 0⟩⟩ else Re.dn (p.doPage m.page Fr.pin).2) else mMiss m p
theorem _root_.Go.Sl.Own.cap_le {m e : Nat} {cs : List Value} {a : Option Addr} {len cap : Nat} {H : HL} (h : Own m e cs a len cap H) : len ≤ cap := by rcases h.2 with ⟨_, h1, h2, _⟩ | ⟨_, _, _, _, h, _⟩ <;> omega
theorem plan_len (page old : Int) (d : Bool) : (planFetch page d old).length ≤ 4 := by cases d <;> exact Nat.le_of_ble_eq_true rfl
theorem at_ok {p : Pt} (hi : p.Inv) (i : Int) : (p.at_ i).Ok := by
  unfold Pt.at_
  split
  · rename_i h
    rw [List.getD_eq_getElem?_getD, List.getElem?_eq_getElem (show i.toNat < p.fs.length by omega), Option.getD_some]
    exact hi.ok.1 _ (List.getElem_mem _)
  · exact Fr.zero_ok
theorem fetch_spec (m : Mc) (b bp : Nat) (H : HL) (hm : MAt m b bp H) (p : Pt) (hi : p.Inv) (Hp : HL) (hp : PtAt p bp Hp) (q : Rq) (hq : q.page = m.page) (aq : Option Addr) (cq : Nat) :
    Ctr Try.prog 58 [.pointer (some ⟨b, 0, none⟩), q.v aq cq] [H, Hp] [] (fun v L' => ∃ H' Hp', v = (mFetch m p).2.2.v none 0 0 ∧ L' = [H', Hp'] ∧ MAt (mFetch m p).1 b bp H' ∧ PtAt (mFetch m p).2.1 bp Hp') := by
  have hF := Find_spec p bp Hp hp m.page
  have hP := PPin_spec p hi bp Hp hp m.page
  have hV := Victim_spec p hi.ok hi.hand bp Hp hp
  have hvi := Pt.victim_inv hi
  have hdone := done_spec (p.doPage m.page Fr.pin).2
  obtain ⟨a, ct, ag, cg, Ht, Hg, rfl, hro, hct, hown⟩ := hm
  obtain ⟨qo, qp, qf, ql, qd⟩ := q
  simp only at hq
  subst hq
  have hmf : mFetch m p = mFetch m p := rfl
  conv at hmf => rhs; unfold mFetch
  generalize mFetch m p = out at *
  refine Ctr.enter (n := 92) [.cell 4 52] [(0, _), (1, _)] Try.func58 rfl rfl rfl (lb rfl) Try.call58 ⟨rfl, rfl, trivial⟩ ?_
  intro cx fin fin0
  refine aG ?_
  refine W.split3 rfl ?_
  refine aG ?_
  repeat (first | refine gw ?_ | refine gN fun _ => ?_ | refine gB fun _ => ?_ | fail)
  rename_i b4
  refine W.draw follows (by decide +kernel) (zG ?_)
  repeat (first | refine zL ?_ | fail)
  refine zC (o := hF) (h := ?_)
  refine WZ.nil (aG ?_)
  cases hg : mget p.tbl m.page with
  | some i =>
    rw [hg, if_pos (show (some i).isSome = true from rfl)] at hmf
    repeat (first | refine gx ?_ | refine gN fun _ => ?_ | refine gB fun _ => ?_ | fail)
    refine W.drawH tab_ok 8 [.b false, .b false, .b false, .b false, .b false, .b false, .b true, .b false] [5] follows (by decide +kernel) (by decide +kernel) rfl (by decide) rfl ?_
    intro _
    refine dG ?_
    repeat (first | refine dL ?_ | refine dS ?_ | (refine dN ?_; intro _; refine dG ?_) | (refine dB ?_; intro _; refine dG ?_) | fail)
    refine dC (o := hP) (h := ?_)
    rintro _ _ ⟨rfl, Hp2, rfl, hp2⟩
    refine dG ?_
    refine WD.nil (W.dropNil (aG ?_))
    by_cases he : (p.doPage m.page Fr.pin).2 = 0
    · rw [if_pos he] at hmf
      subst hmf
      repeat (first | refine gh he ?_ | refine gN fun _ => ?_ | refine gB fun _ => ?_ | fail)
      refine aBu (ps := [_]) ?_
      refine aBu (ps := [_]) ?_
      refine aBu (ps := [_, _, _]) ?_
      repeat (first | refine gw ?_ | refine gN fun _ => ?_ | refine gB fun _ => ?_ | fail)
      refine W.groupV [3, 3, 3] rfl ?_
      refine W.ret (fin _ _ (FinOk.first 2 (aRc .nil) rfl ?_))
      exact ⟨_, _, rfl, rfl, ⟨_, _, _, _, _, _, rfl, hro, hct, hown⟩, hp2⟩
    · rw [if_neg he] at hmf
      subst hmf
      repeat (first | refine gh he ?_ | refine gN fun _ => ?_ | refine gB fun _ => ?_ | fail)
      refine aC (o := hdone) (h := ?_)
      rintro _ _ ⟨rfl, rfl⟩
      refine aG ?_
      repeat (first | refine gw ?_ | refine gN fun _ => ?_ | refine gB fun _ => ?_ | fail)
      refine W.groupV [3, 3, 3] rfl ?_
      refine W.ret (fin _ _ (FinOk.first 2 (aRc .nil) rfl ?_))
      exact ⟨_, _, rfl, rfl, ⟨_, _, _, _, _, _, rfl, hro, hct, hown⟩, hp2⟩
  | none =>
    rw [hg, if_neg (by simp)] at hmf
    unfold mMiss at hmf
    repeat (first | refine gx ?_ | refine gN fun _ => ?_ | refine gB fun _ => ?_ | fail)
    refine aBu (ps := [_]) ?_
    refine aBu (ps := [_]) ?_
    repeat (first | refine gw ?_ | refine gN fun _ => ?_ | refine gB fun _ => ?_ | fail)
    cases hv : p.victim.2 with
    | none =>
      rw [hv] at hmf hV
      simp only at hmf hV
      subst hmf
      refine aC (o := hV) (h := ?_)
      rintro _ _ ⟨rfl, Hp2, rfl, hp2⟩
      refine aG ?_
      repeat (first | refine gx ?_ | refine gN fun _ => ?_ | refine gB fun _ => ?_ | fail)
      refine W.groupV [4, 4, 4] rfl ?_
      refine W.order [0, 0, 1] rfl ?_
      refine W.ret (fin _ _ (FinOk.first 2 (aRc .nil) rfl ?_))
      exact ⟨_, _, rfl, rfl, ⟨_, _, _, _, _, _, rfl, hro, hct, hown⟩, hp2⟩
    | some j =>
      rw [hv] at hmf hV
      simp only at hmf hV
      refine aC (o := hV) (h := ?_)
      rintro _ _ ⟨rfl, Hp2, rfl, hp2⟩
      refine aG ?_
      have hA := PAt_spec p.victim.1 hvi.ok bp Hp2 hp2 (j : Int)
      have hfo := at_ok hvi (j : Int)
      have hR := Release_spec p.victim.1 hvi.ok bp Hp2 hp2 (j : Int)
      have hPl := PFetch_spec m.page (p.victim.1.at_ (j : Int)).page (p.victim.1.at_ (j : Int)).dirty
      have hpl4 := plan_len m.page (p.victim.1.at_ (j : Int)).page (p.victim.1.at_ (j : Int)).dirty
      generalize p.victim.1.at_ (j : Int) = f at *
      repeat (first | refine gx ?_ | refine gN fun _ => ?_ | refine gB fun _ => ?_ | fail)
      refine aC (o := hA) (h := ?_)
      rintro _ _ ⟨rfl, rfl⟩
      refine aG ?_
      refine aN ?_
      intro c1
      refine aG ?_
      refine W.store tab_ok rfl Upd.here rfl rfl rfl (Fr.l_len hfo) f.l_one (splice_all (by rw [Fr.l_len hfo]; rfl)) (aG ?_)
      obtain ⟨fu, fd, fr, fn, fp, fb⟩ := f
      simp only at hmf hPl hpl4
      cases fu
      case' true => cases fd
      case' true.false =>
        repeat (first | refine gx ?_ | refine gN fun _ => ?_ | refine gB fun _ => ?_ | fail)
        refine aC (o := hR) (h := ?_)
        rintro _ _ ⟨rfl, Hp3, rfl, hp3⟩
        refine aG ?_
      all_goals
        subst hmf
        repeat (first | refine gx ?_ | refine gN fun _ => ?_ | refine gB fun _ => ?_ | fail)
        refine aC (o := hPl) (h := ?_)
        rintro _ _ ⟨an, cn, Hn, rfl, rfl, hn⟩
        refine aG ?_
        repeat (first | refine gx ?_ | refine gN fun _ => ?_ | refine gB fun _ => ?_ | fail)
        refine W.groupV [6, 0, 6] rfl ?_
      case' true.false =>
        refine W.order [0, 0, 2] rfl ?_
      case' true.true =>
        refine W.order [0, 1, 2] rfl ?_
      case' some.false =>
        refine W.order [0, 1, 2] rfl ?_
      all_goals
        refine W.ret (fin _ _ (FinOk.first 2 (aRc .nil) rfl ?_))
        refine ⟨_, _, rfl, rfl, ⟨_, _, _, _, _, _, rfl, Own.roSl hn, hn.cap_le, hown⟩, ?_⟩
        assumption
def selD (p : Pt) (page : Int) (ds : List Int) : List Int := (ds.filter fun i => decide (page < 0) || decide ((p.at_ i).page = page)).map fun i => (p.at_ i).page
theorem selD_next (p : Pt) (page : Int) (ds : List Int) (j : Nat) (hj : j < ds.length) : selD p page (ds.take (j + 1)) = selD p page (ds.take j) ++ (if (decide (page < 0) || decide ((p.at_ ds[j]).page = page)) = true then [(p.at_ ds[j]).page] else []) := by
  rw [List.take_add_one, List.getElem?_eq_getElem hj]
  simp only [selD, Option.toList_some, List.filter_append, List.map_append, List.filter_cons, List.filter_nil]
  split <;> rfl
theorem selD_len (p : Pt) (page : Int) (ds : List Int) : (selD p page ds).length ≤ ds.length := by
  simp only [selD, List.length_map]
  exact List.length_filter_le _ _
theorem dirty_len (p : Pt) : p.dirty.length ≤ p.fs.length := dirtyFrom_len p.fs 0
theorem MDirty_spec (m : Mc) (b bp : Nat) (H : HL) (hm : MAt m b bp H) (p : Pt) (hi : p.Inv) (Hp : HL) (hp : PtAt p bp Hp) (page : Int) :
    Ctr Try.prog 90 [.pointer (some ⟨b, 0, none⟩), .int .i64 page] [] (H ++ Hp) (fun v L' => ∃ a c Hl, v = .slice a (selD p page p.dirty).length c ∧ L' = [Hl] ∧ Own 1 3 (ints (selD p page p.dirty)) a (selD p page p.dirty).length c Hl) := by
  obtain ⟨t, g, ⟨at_, ct, rfl⟩, ⟨ag, cg, rfl⟩, hb⟩ := hm.head
  have hat : ∀ L, At (H ++ Hp) L b _ := fun L => .inr (List.mem_append_left _ hb)
  have hA := fun i => PAt_spec p hi.ok bp Hp hp i
  have hD := PDirty_spec p hi.ok bp Hp hp
  have rP : ∀ {L}, RoIn (H ++ Hp) L Hp := RoIn.all fun q hq => List.mem_append_right _ hq
  have h64 := hi.ok.2.2
  have hdl := dirty_len p
  refine Ctr.enter (n := 40) [.tmp 4] [(0, _), (1, _)] Try.func90 rfl rfl rfl (lb rfl) Try.call90 ⟨rfl, rfl, trivial⟩ ?_
  intro cx fin fin0
  refine aG ?_
  refine aV (OpVal.load tab_ok rfl (hat _) rfl) ?_
  refine aC (o := hD) (h := ?_) (hro := rP)
  rintro _ _ ⟨ad, cd, Hs, rfl, rfl, hds⟩
  refine aG ?_
  generalize p.dirty = ds at *
  refine W.nilChunk ?_
  refine aLp (fun k ρ1 L1 => ∃ (j n : Nat) (a : Option Addr) (c : Nat) (Hl : HL), j ≤ ds.length ∧ n = (selD p page (ds.take j)).length ∧ Own 1 3 (ints (selD p page (ds.take j))) a n c Hl ∧ k = ds.length - j ∧ ρ1 = [(15, .int .i64 (j : Int)), (14, .int .i64 (ds.length : Int)), (13, .slice ad ds.length cd), (5, .slice a n c), (1, .int .i64 page), (0, .pointer (some ⟨b, 0, none⟩))] ∧ L1 = [Hl, Hs]) (o := ⟨0, 0, none, 0, [], by omega, rfl, Own.nil 1 _, rfl, rfl, rfl⟩) (h := ?_)
  rintro k ρ1 L1 ⟨j, n, a, c, Hl, hj, hn, hown, rfl, rfl, rfl⟩
  refine aG ?_
  by_cases hlt : j < ds.length
  · refine aT ?_
    have hnx := selD_next p page ds j hlt
    have hsl := selD_len p page (ds.take j)
    rw [← hn, List.length_take] at hsl
    obtain ⟨bx, ox, lx, ex, frx, rfl, rfl, -, hld⟩ := RoSl.at (f := fun x => [.int .i64 x]) (fun _ => rfl) (Own.roSl hds) hlt
    have l0 : lx[ox + j * 1]? = some (.int .i64 ds[j]) := hld 0 (by decide)
    have hAj := hA ds[j]
    have hfo := at_ok hi ds[j]
    generalize p.at_ ds[j] = f at *
    generalize ds[j] = d at *
    refine aV (OpVal.ixSl tab_ok rfl rfl rfl rfl rfl hlt) ?_
    refine aV (OpVal.load tab_ok rfl (at_own 1 rfl) l0) ?_
    refine aV (OpVal.load tab_ok rfl (hat _) rfl) ?_
    refine aC (o := hAj) (h := ?_) (hro := rP)
    rintro _ _ ⟨rfl, rfl⟩
    refine aG ?_
    refine aN ?_
    intro c1
    refine aG ?_
    refine W.store tab_ok rfl Upd.here rfl rfl rfl (Fr.l_len hfo) f.l_one (splice_all (by rw [Fr.l_len hfo]; rfl)) (aG ?_)
    obtain ⟨fu, fd, fr, fn, fp, fb⟩ := f
    simp only at hnx
    have hsel : ((decide (page < 0) || decide (fp = page)) = true ∧ selD p page (ds.take (j + 1)) = selD p page (ds.take j) ++ [fp]) ∨ ((decide (page < 0) || decide (fp = page)) = false ∧ selD p page (ds.take (j + 1)) = selD p page (ds.take j)) := by
      cases hq : (decide (page < 0) || decide (fp = page)) with
      | true => rw [hq] at hnx; exact .inl ⟨rfl, hnx⟩
      | false => rw [hq] at hnx; exact .inr ⟨rfl, by simpa using hnx⟩
    rcases hsel with ⟨hq, hnx⟩ | ⟨hq, hnx⟩
    · by_cases h0 : page < 0
      case' pos =>
        repeat (first | refine gh h0 ?_ | refine gN fun _ => ?_ | refine gB fun _ => ?_ | fail)
      case' neg =>
        have h1 : fp = page := by simpa [h0] using hq
        repeat (first | refine gh (gc2 h0 h1) ?_ | refine gN fun _ => ?_ | refine gB fun _ => ?_ | fail)
      all_goals
        refine aSl (ps := [_]) ?_
        intro bt
        refine aG ?_
        refine aAp (hown) ?_
        rintro _ _ ⟨_, _, _, rfl, rfl, ho⟩
        refine aG ?_
        refine aV (OpVal.add rfl rfl (i64_in _ (by omega))) ?_
        have ho' : Own 1 3 (ints (selD p page (ds.take j)) ++ ints [fp]) _ _ _ _ := ho
        have e : ints (selD p page (ds.take j)) ++ ints [fp] = ints (selD p page (ds.take (j + 1))) := by rw [hnx]; simp [ints]
        rw [e] at ho'
        refine aR (o := ⟨ds.length - (j + 1), by omega, j + 1, n + 1, _, _, _, by omega, by rw [hnx, List.length_append, ← hn]; rfl, ho', rfl, rfl, rfl⟩)
    · have h0 : ¬ page < 0 := by simp at hq; omega
      have h1 : ¬ fp = page := by simp at hq; exact hq.2
      repeat (first | refine gh (gc2 h0 h1) ?_ | refine gN fun _ => ?_ | refine gB fun _ => ?_ | fail)
      rw [← hnx] at hn hown
      refine aR (o := ⟨ds.length - (j + 1), by omega, j + 1, n, _, _, _, by omega, hn, hown, rfl, rfl, rfl⟩)
  · obtain rfl : j = ds.length := by omega
    refine aF ?_
    rw [List.take_length] at hn hown
    subst hn
    refine W.ret (fin _ _ (FinOk.first 1 (.tmp rfl .nil) rfl ?_))
    exact ⟨_, _, _, rfl, rfl, hown⟩
theorem MFlush_spec (m : Mc) (b bp : Nat) (H : HL) (hm : MAt m b bp H) (p : Pt) (hi : p.Inv) (Hp : HL) (hp : PtAt p bp Hp) (page : Int) :
    Ctr Try.prog 67 [.pointer (some ⟨b, 0, none⟩), .int .i64 page] [H] Hp (fun v L' => ∃ H', v = (⟨false, 0, false, [], C6.none⟩ : Re).v none 0 0 ∧ L' = [H'] ∧ MAt { m with todo := planFlush (selD p page p.dirty) } b bp H') := by
  have hD := MDirty_spec m b bp H hm p hi Hp hp page
  have hl := selD_len p page p.dirty
  have hdl := dirty_len p
  have h64 := hi.ok.2.2
  generalize selD p page p.dirty = ds at *
  obtain ⟨a, ct, ag, cg, Ht, Hg, hH, hro, hct, hown⟩ := hm
  refine Ctr.enter (n := 13) [.cell 4 52] [(0, _), (1, _)] Try.func67 rfl rfl rfl (lb rfl) Try.call67 ⟨rfl, rfl, trivial⟩ ?_
  intro cx fin fin0
  refine aG ?_
  repeat (first | refine gw ?_ | refine gN fun _ => ?_ | refine gB fun _ => ?_ | fail)
  refine aC (o := hD) (h := ?_) (hro := RoIn.append (RoIn.own 1 rfl) RoIn.same)
  rintro _ _ ⟨ad, cd, Hd, rfl, rfl, hd⟩
  refine aG ?_
  have hPF := PFlush_spec ds (by omega) ad cd Hd (Own.roSl hd)
  refine aC (o := hPF) (h := ?_)
  rintro _ _ ⟨an, cn, Hn, rfl, rfl, hn⟩
  refine aG ?_
  subst hH
  refine W.order [3, 0, 1] rfl ?_
  refine aG ?_
  refine W.split3 rfl ?_
  refine aG ?_
  repeat (first | refine gx ?_ | refine gN fun _ => ?_ | refine gB fun _ => ?_ | fail)
  refine aBu (ps := []) ?_
  repeat (first | refine gw ?_ | refine gN fun _ => ?_ | refine gB fun _ => ?_ | fail)
  refine W.groupV [0, 2, 1] rfl ?_
  refine W.ret (fin _ _ (FinOk.first 1 (aRc .nil) rfl ?_))
  exact ⟨_, rfl, rfl, ⟨_, _, _, _, _, _, rfl, Own.roSl hn, hn.cap_le, hown⟩⟩
def mDiscard (p : Pt) (page : Int) : Pt × Int := match mget p.tbl page with | none => (p, 0) | some i => p.release i
theorem Discard_spec (m : Mc) (b bp : Nat) (H : HL) (hm : MAt m b bp H) (p : Pt) (hi : p.Inv) (Hp : HL) (hp : PtAt p bp Hp) (q : Rq) (aq : Option Addr) (cq : Nat) :
    Ctr Try.prog 69 [.pointer (some ⟨b, 0, none⟩), q.v aq cq] [Hp] H (fun v L' => ∃ Hp', v = (Re.dn (mDiscard p q.page).2).v none 0 0 ∧ L' = [Hp'] ∧ PtAt (mDiscard p q.page).1 bp Hp') := by
  obtain ⟨t, g, ⟨at_, ct, rfl⟩, ⟨ag, cg, rfl⟩, hb⟩ := hm.head
  have hat : ∀ L, At H L b _ := fun L => .inr hb
  have hF := Find_spec p bp Hp hp q.page
  have hdone := fun e => done_spec e
  obtain ⟨qo, qp, qf, ql, qd⟩ := q
  simp only at *
  refine Ctr.enter (n := 27) [.cell 4 52] [(0, _), (1, _)] Try.func69 rfl rfl rfl (lb rfl) Try.call69 ⟨rfl, rfl, trivial⟩ ?_
  intro cx fin fin0
  refine aG ?_
  repeat (first | refine gw ?_ | refine gN fun _ => ?_ | refine gB fun _ => ?_ | fail)
  refine W.draw follows (by decide +kernel) (zG ?_)
  refine zV (OpVal.load tab_ok rfl (hat _) rfl) ?_
  repeat (first | refine zL ?_ | fail)
  refine zC (o := hF) (h := ?_)
  refine WZ.nil (aG ?_)
  cases hg : mget p.tbl qp with
  | none =>
    have hmd : mDiscard p qp = (p, 0) := by unfold mDiscard; rw [hg]
    repeat (first | refine gx ?_ | refine gN fun _ => ?_ | refine gB fun _ => ?_ | fail)
    refine aC (o := hdone 0) (h := ?_)
    rintro _ _ ⟨rfl, rfl⟩
    refine aG ?_
    repeat (first | refine gw ?_ | refine gN fun _ => ?_ | refine gB fun _ => ?_ | fail)
    refine W.order [2, 0] rfl ?_
    refine W.ret (fin _ _ (FinOk.first 1 (aRc .nil) rfl ?_))
    rw [hmd]
    exact ⟨_, rfl, rfl, hp⟩
  | some i =>
    have hR := Release_spec p hi.ok bp Hp hp i
    have hmd : mDiscard p qp = p.release i := by unfold mDiscard; rw [hg]
    repeat (first | refine gx ?_ | refine gN fun _ => ?_ | refine gB fun _ => ?_ | fail)
    refine aV (OpVal.load tab_ok rfl (hat _) rfl) ?_
    refine aC (o := hR) (h := ?_)
    rintro _ _ ⟨rfl, Hp2, rfl, hp2⟩
    refine aG ?_
    refine aC (o := hdone _) (h := ?_)
    rintro _ _ ⟨rfl, rfl⟩
    refine aG ?_
    repeat (first | refine gw ?_ | refine gN fun _ => ?_ | refine gB fun _ => ?_ | fail)
    refine W.order [0, 0] rfl ?_
    refine W.ret (fin _ _ (FinOk.first 1 (aRc .nil) rfl ?_))
    rw [hmd]
    exact ⟨_, rfl, rfl, hp2⟩
/-- What is done once a page is stored. -/
def mStored (m : Mc) (p : Pt) (page : Int) : Pt × C6 :=
  if m.op = 1 then (((p.clean ((mget p.tbl page).getD 0)).1.release ((mget p.tbl page).getD 0)).1, ⟨0, 0, 1, 0, 0, 0⟩) else ((p.clean ((mget p.tbl page).getD 0)).1, C6.none)
theorem Stored_spec (m : Mc) (b bp : Nat) (H : HL) (hm : MAt m b bp H) (p : Pt) (hi : p.Inv) (Hp : HL) (hp : PtAt p bp Hp) (page : Int) :
    Ctr Try.prog 33 [.pointer (some ⟨b, 0, none⟩), .int .i64 page] [Hp] H (fun v L' => ∃ Hp', v = (mStored m p page).2.v ∧ L' = [Hp'] ∧ PtAt (mStored m p page).1 bp Hp') := by
  obtain ⟨t, g, ⟨at_, ct, rfl⟩, ⟨ag, cg, rfl⟩, hb⟩ := hm.head
  have hat : ∀ L, At H L b _ := fun L => .inr hb
  have hF := Find_spec p bp Hp hp page
  have hC := Clean_spec p hi.ok bp Hp hp ((mget p.tbl page).getD 0)
  have hci := Pt.clean_inv hi ((mget p.tbl page).getD 0)
  have hms : mStored m p page = mStored m p page := rfl
  conv at hms => rhs; unfold mStored
  generalize mStored m p page = out at *
  refine Ctr.enter (n := 35) [.cell 4 48] [(0, _), (1, _)] Try.func33 rfl rfl rfl (lb rfl) Try.call33 ⟨rfl, rfl, trivial⟩ ?_
  intro cx fin fin0
  refine aG ?_
  repeat (first | refine gw ?_ | refine gN fun _ => ?_ | refine gB fun _ => ?_ | fail)
  refine aV (OpVal.load tab_ok rfl (hat _) rfl) ?_
  refine aC (o := hF) (h := ?_)
  rintro _ _ ⟨rfl, rfl⟩
  refine aG ?_
  refine aV (OpVal.load tab_ok rfl (hat _) rfl) ?_
  refine aC (o := hC) (h := ?_)
  rintro _ _ ⟨rfl, Hp2, rfl, hp2⟩
  refine aG ?_
  refine aV (OpVal.load tab_ok rfl (hat _) rfl) ?_
  by_cases h1 : m.op = 1
  · rw [if_pos h1] at hms
    subst hms
    have hR := Release_spec _ hci.ok bp Hp2 hp2 ((mget p.tbl page).getD 0)
    repeat (first | refine gh h1 ?_ | refine gN fun _ => ?_ | refine gB fun _ => ?_ | fail)
    refine aV (OpVal.load tab_ok rfl (hat _) rfl) ?_
    refine aC (o := hR) (h := ?_)
    rintro _ _ ⟨rfl, Hp3, rfl, hp3⟩
    refine aG ?_
    refine aBu (ps := [_]) ?_
    repeat (first | refine gw ?_ | refine gN fun _ => ?_ | refine gB fun _ => ?_ | fail)
    refine W.order [0, 0] rfl ?_
    refine W.ret (fin _ _ (FinOk.first 1 (aRc .nil) rfl ?_))
    exact ⟨_, rfl, rfl, hp3⟩
  · rw [if_neg h1] at hms
    subst hms
    repeat (first | refine gh h1 ?_ | refine gN fun _ => ?_ | refine gB fun _ => ?_ | fail)
    refine aBu (ps := []) ?_
    repeat (first | refine gw ?_ | refine gN fun _ => ?_ | refine gB fun _ => ?_ | fail)
    refine W.order [0, 0] rfl ?_
    refine W.ret (fin _ _ (FinOk.first 1 (aRc .nil) rfl ?_))
    exact ⟨_, rfl, rfl, hp2⟩
end Go.Proofs.Ytgipjpiiomgjjaa
