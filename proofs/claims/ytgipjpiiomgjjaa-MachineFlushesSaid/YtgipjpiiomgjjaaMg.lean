/-
  The document's machine: Begin, the two flushes.
-/
import Derived.Test.YtgipjpiiomgjjaaMf
namespace Go.Proofs.Ytgipjpiiomgjjaa
open Go Go.Sl Go.IntWalk
set_option maxHeartbeats 8000000
set_option maxRecDepth 20000
theorem _root_.Go.Sl.OpVal.maxL {P : Program} {n : Nat} {R : HL} {cx : Cx} {ρ : Env} {L : List HL} {t1 t2 ty : TypeId} {x y : Operand} {kk k2 : IntKind} {i j : Int} (hx : ev? ρ x = some (.int kk i)) (hy : ev? ρ y = some (.int k2 j)) (h : ¬ i < j) :
    OpVal P n R cx (.call ⟨.builtin .max, #[x, y], #[t1, t2]⟩) ty ρ L (.int kk i) := by
  have := OpVal.max2 (P := P) (n := n) (R := R) (cx := cx) (L := L) (t1 := t1) (t2 := t2) (ty := ty) hx hy
  rwa [if_neg h] at this
/-- The pages of the dirty frames that pass a test. -/
def dpgs (fs : List Fr) (g : Fr → Bool) : List Int := (fs.filter fun f => f.dirty && g f).map Fr.page
theorem selD_from (p : Pt) (page : Int) : ∀ (fs : List Fr) (k : Nat), (∀ i (h : i < fs.length), p.at_ ((k + i : Nat) : Int) = fs[i]) → selD p page (dirtyFrom fs k) = dpgs fs fun f => decide (page < 0) || decide (f.page = page)
  | [], _, _ => rfl
  | f :: fs, k, h => by
    have h0 := h 0 (by simp)
    simp only [Nat.add_zero, List.getElem_cons_zero] at h0
    have ih := selD_from p page fs (k + 1) fun i hi => by
      have := h (i + 1) (by simp; omega)
      rw [show k + 1 + i = k + (i + 1) by omega, this]
      rfl
    unfold selD dpgs at ih ⊢
    unfold dirtyFrom
    by_cases hd : f.dirty = true
    · rw [if_pos hd, List.filter_cons, List.filter_cons, h0]
      simp only [hd, Bool.true_and]
      split
      · simp only [List.map_cons, h0, ih]
      · exact ih
    · rw [if_neg hd, List.filter_cons, if_neg (by simp [hd])]
      exact ih
theorem selD_eq (p : Pt) (page : Int) : selD p page p.dirty = dpgs p.fs fun f => decide (page < 0) || decide (f.page = page) :=
  selD_from p page p.fs 0 fun i h => by rw [Nat.zero_add]; exact Pt.at_nat h
theorem filter_one {α : Type} (g : α → Bool) : ∀ (l : List α) (j : Nat) (hj : j < l.length), g l[j] = true → (∀ k (h : k < l.length), g l[k] = true → k = j) → l.filter g = [l[j]]
  | [], _, hj, _, _ => by cases hj
  | x :: l, 0, _, h, hu => by
    simp only [List.getElem_cons_zero] at h ⊢
    rw [List.filter_cons, if_pos h, List.filter_eq_nil_iff.2]
    · intro y hy
      obtain ⟨k, hk, rfl⟩ := List.getElem_of_mem hy
      intro hg
      have := hu (k + 1) (by simp; omega) hg
      omega
  | x :: l, j + 1, hj, h, hu => by
    rw [List.filter_cons, if_neg, filter_one g l j (by simpa using hj) h]
    · rfl
    · intro k hk hg
      have := hu (k + 1) (by simp; omega) hg
      omega
    · intro hg
      have := hu 0 (by simp) hg
      omega
theorem selD_page {p : Pt} (hi : p.Inv) {page : Int} (h0 : 0 ≤ page) : selD p page p.dirty = match mget p.tbl page with
    | some i => if (p.at_ i).dirty = true then [page] else []
    | none => [] := by
  have hn : decide (page < 0) = false := by simp; omega
  rw [selD_eq]
  unfold dpgs
  simp only [hn, Bool.false_or]
  have hu : ∀ k (h : k < p.fs.length), (p.fs[k].dirty && decide (p.fs[k].page = page)) = true → mget p.tbl page = some (k : Int) := by
    intro k hk hg
    simp only [Bool.and_eq_true, decide_eq_true_eq] at hg
    by_cases hus : p.fs[k].used = true
    · rw [← hg.2]; exact hi.inv k hk hus
    · have := hi.emp _ (List.getElem_mem hk) (by simpa using hus)
      rw [this] at hg
      exact absurd hg.1 (by decide)
  cases hg : mget p.tbl page with
  | none =>
    rw [List.filter_eq_nil_iff.2]
    · rfl
    · intro f hf hq
      obtain ⟨k, hk, rfl⟩ := List.getElem_of_mem hf
      rw [hg] at hu
      exact absurd (hu k hk hq) (by simp)
  | some i =>
    obtain ⟨j, hj, rfl, hus, hpg⟩ := hi.tbl page i hg
    simp only
    rw [Pt.at_nat hj]
    by_cases hd : p.fs[j].dirty = true
    · rw [if_pos hd, filter_one _ p.fs j hj (by simp [hd, hpg]) (fun k hk hq => by have := hu k hk hq; rw [hg] at this; simp at this; omega)]
      simp [hpg]
    · rw [if_neg hd, List.filter_eq_nil_iff.2]
      · rfl
      · intro f hf hq
        obtain ⟨k, hk, rfl⟩ := List.getElem_of_mem hf
        have := hu k hk hq
        rw [hg] at this
        simp only [Option.some.injEq, Int.natCast_inj] at this
        subst this
        simp [hd] at hq
theorem dpgs_snoc (fs : List Fr) (f : Fr) (g : Fr → Bool) : dpgs (fs ++ [f]) g = dpgs fs g ++ (if (f.dirty && g f) = true then [f.page] else []) := by
  unfold dpgs
  rw [List.filter_append, List.map_append, List.filter_cons]
  split <;> rfl
theorem dpgs_len (fs : List Fr) (g : Fr → Bool) : (dpgs fs g).length ≤ fs.length := by
  unfold dpgs
  rw [List.length_map]
  exact List.length_filter_le _ _
theorem RBegin6_spec (m : Mc) (p : Pt) (hi : p.Inv) (v : Value) (D : HL) (hd : DocM m p v D) (q : Rq) (h : q.op = 6) (aq : Option Addr) (cq : Nat) : Ctr Try.prog 28 [v, q.v aq cq] [] D (DocOut (mBegin m p q) D) := by
  obtain ⟨qo, qp, qf, ql, qd⟩ := q
  simp only at h
  subst h
  obtain ⟨a, c, r, at_, ct, rt, ag, cg, rg, rfl, h2, h3, h4, h5, h6, h7, h8⟩ := hd
  have hF := RFindP_spec p hi p.hand (.agg #[.slice a p.fs.length c, .int .i64 p.hand]) D ⟨a, c, r, rfl, h2, h6⟩ qp
  have h64 := hi.ok.2.2
  have hsd : selD p (-1) p.dirty = dpgs p.fs fun _ => true := by rw [selD_eq]; rfl
  have hb : mBegin m p ⟨6, qp, qf, ql, qd⟩ = (⟨6, qp, m.to, planFlush (selD p (-1) p.dirty), m.got⟩, p, ⟨false, 0, false, [], C6.none⟩) := rfl
  rw [hb, hsd]
  refine Ctr.enter (n := 210) [.cell 4 36, .cell 5 77] [(0, _), (1, _)] Try.func28 rfl rfl rfl (lb rfl) Try.call28 ⟨rfl, rfl, trivial⟩ ?_
  intro cx fin fin0
  refine aG ?_
  repeat (first | refine gw ?_ | refine gN fun _ => ?_ | refine gB fun _ => ?_ | fail)
  refine aC (o := hF) (h := ?_) (hro := RoIn.all (fun p hp => by simp [hp]))
  rintro _ _ ⟨rfl, rfl⟩
  refine aG ?_
  repeat (first | refine gx ?_ | refine gN fun _ => ?_ | refine gB fun _ => ?_ | fail)
  rename_i b2 b3 b4 b5
  refine W.nilChunk ?_
  refine aLp (fun k ρ1 L1 => ∃ (j : Nat) (ds : List Int) (aa : Option Addr) (nn cc : Nat) (Hl : HL), j ≤ p.fs.length ∧ ds = dpgs (p.fs.take j) (fun _ => true) ∧ nn = ds.length ∧ Own 1 3 (ints ds) aa nn cc Hl ∧ k = p.fs.length - j ∧ ρ1 = [(21, .int .i64 (j : Int)), (20, .slice aa nn cc), (5, .pointer (some ⟨b5, 0, none⟩)), (4, .pointer (some ⟨b4, 0, none⟩)), (2, .pointer (some ⟨b2, 0, none⟩))] ∧ L1 = [Hl, [(b5, .cells #[.bool false, .int .i64 0, .bool false, .string ⟨#[]⟩, .int .u64 0, .int .u64 0, .int .u64 0, .int .u64 0, .int .u64 0, .int .u64 0] 77 (0, 0))], [(b4, .cells #[.slice none 0 0, .int .i64 0, .int .i64 0, .int .i64 0, .slice none 0 0, .int .i64 0, .slice none 0 0] 36 (0, 0))], [(b3, .cells #[.int .i64 6, .int .i64 qp, .int .i64 qf, .int .i64 ql, .slice aq qd.length cq] 25 (0, 0))], [(b2, .cells #[.slice a p.fs.length c, .int .i64 p.hand, .int .i64 6, .int .i64 qp, .slice at_ m.todo.length ct, .int .i64 m.to, .slice ag m.got.length cg] 36 (0, 0))]]) (o := ⟨0, [], none, 0, 0, [], Nat.zero_le _, rfl, rfl, Own.nil _ _, rfl, rfl, rfl⟩) (h := ?_)
  rintro k ρ1 L1 ⟨j, ds, aa, nn, cc, Hl, hj, hds, hnn, hown, rfl, rfl, rfl⟩
  refine aG ?_
  repeat (first | refine gw ?_ | refine gN fun _ => ?_ | refine gB fun _ => ?_ | fail)
  by_cases hlt : j < p.fs.length
  · have hnx : dpgs (p.fs.take (j + 1)) (fun _ => true) = ds ++ (if p.fs[j].dirty = true then [p.fs[j].page] else []) := by
      rw [List.take_add_one, List.getElem?_eq_getElem hlt, Option.toList_some, dpgs_snoc, ← hds]
      simp
    have hlen : ds.length ≤ 64 := by
      have := dpgs_len (p.fs.take j) (fun _ => true)
      rw [← hds, List.length_take] at this
      omega
    obtain ⟨bx, ox, lx, ex, frx, rfl, hmem, _, hld⟩ := doc_at h2 hlt
    have ld : lx[ox + j * 6 + 1]? = some (.bool p.fs[j].dirty) := hld 1 (by decide)
    have lp : lx[ox + j * 6 + 4]? = some (.int .i64 p.fs[j].page) := hld 4 (by decide)
    generalize p.fs[j] = f at hnx ld lp
    refine aT ?_ (hb := by simp; omega)
    repeat (first | refine gw ?_ | refine gN fun _ => ?_ | refine gB fun _ => ?_ | fail)
    refine aV (OpVal.ixSl tab_ok rfl rfl rfl rfl rfl hlt) ?_
    refine aV (OpVal.load tab_ok rfl (show At _ _ bx (.cells lx.toArray ex frx) from .inr (by simp [h6 _ hmem])) ld) ?_
    by_cases hdd : f.dirty = true
    · rw [if_pos hdd] at hnx
      refine aT ?_ (hb := by exact hdd)
      repeat (first | refine gw ?_ | refine gN fun _ => ?_ | refine gB fun _ => ?_ | fail)
      refine aV (OpVal.ixSl tab_ok rfl rfl rfl rfl rfl hlt) ?_
      refine aV (OpVal.load tab_ok rfl (show At _ _ bx (.cells lx.toArray ex frx) from .inr (by simp [h6 _ hmem])) lp) ?_
      refine aSl (ps := [_]) ?_
      intro bq
      refine aG ?_
      refine aAp (hown) ?_
      rintro _ _ ⟨_, _, _, rfl, rfl, ho⟩
      refine aG ?_
      have ei : ints ds ++ [.int .i64 f.page] = ints (ds ++ [f.page]) := by simp [ints]
      rw [ei] at ho
      refine aV (OpVal.add rfl rfl (i64_in _ (by omega))) ?_
      refine aR (o := ⟨p.fs.length - (j + 1), by omega, j + 1, _, _, _, _, _, by omega, hnx.symm, by simp [hnn], ho, rfl, rfl, rfl⟩)
    · rw [if_neg hdd, List.append_nil] at hnx
      refine aF ?_ (hb := by simpa using hdd)
      refine aV (OpVal.add rfl rfl (i64_in _ (by omega))) ?_
      refine aR (o := ⟨p.fs.length - (j + 1), by omega, j + 1, _, _, _, _, _, by omega, hnx.symm, hnn, hown, rfl, rfl, rfl⟩)
  · refine aF ?_ (hb := by simp; omega)
    have hjn : j = p.fs.length := by omega
    subst hjn
    rw [List.take_length] at hds
    have hlen : ds.length ≤ 64 := by
      have := dpgs_len p.fs (fun _ => true)
      rw [← hds] at this
      omega
    subst hnn
    have hP := RFlush_spec ds (by omega) aa cc Hl (Own.roSl hown)
    repeat (first | refine gx ?_ | refine gN fun _ => ?_ | refine gB fun _ => ?_ | fail)
    refine aC (o := hP) (h := ?_) (hro := RoIn.own 0 rfl)
    rintro _ _ ⟨an, cn, Hn, rfl, rfl, hn⟩
    refine aG ?_
    repeat (first | refine gx ?_ | refine gN fun _ => ?_ | refine gB fun _ => ?_ | fail)
    refine aBu (ps := []) ?_
    repeat (first | refine gx ?_ | refine gN fun _ => ?_ | refine gB fun _ => ?_ | fail)
    refine W.order [0, 1, 1] rfl ?_
    refine W.ret (fin _ _ (FinOk.first 1 (aRc (aRc .nil)) rfl ?_))
    rw [← hds]
    exact ⟨Hn, _, rfl, rfl, a, c, r, an, cn, _, ag, cg, rg, rfl, h2, hn.roSl, h4, hn.cap_le, fun q hq => List.mem_append_right _ (h6 q hq), fun q hq => List.mem_append_left _ hq, fun q hq => List.mem_append_right _ (h8 q hq)⟩
theorem RBegin5_spec (m : Mc) (p : Pt) (hi : p.Inv) (v : Value) (D : HL) (hd : DocM m p v D) (q : Rq) (h : q.op = 5) (h0 : 0 ≤ q.page) (aq : Option Addr) (cq : Nat) : Ctr Try.prog 28 [v, q.v aq cq] [] D (DocOut (mBegin m p q) D) := by
  obtain ⟨qo, qp, qf, ql, qd⟩ := q
  simp only at h h0
  subst h
  obtain ⟨a, c, r, at_, ct, rt, ag, cg, rg, rfl, h2, h3, h4, h5, h6, h7, h8⟩ := hd
  have hF := RFindP_spec p hi p.hand (.agg #[.slice a p.fs.length c, .int .i64 p.hand]) D ⟨a, c, r, rfl, h2, h6⟩ qp
  have hsd := selD_page hi h0
  have hb : mBegin m p ⟨5, qp, qf, ql, qd⟩ = (⟨5, qp, m.to, planFlush (selD p qp p.dirty), m.got⟩, p, ⟨false, 0, false, [], C6.none⟩) := rfl
  rw [hb, hsd]
  have hP := fun (ds : List Int) (hl : ds.length ≤ 1000) (a0 : Option Addr) (cap0 : Nat) (ro : HL) (hro : RoSl 1 (ints ds) a0 ds.length ro) => RFlush_spec ds hl a0 cap0 ro hro
  cases hg : mget p.tbl qp with
  | none =>
    rw [hg] at hF
    refine Ctr.enter (n := 210) [.cell 4 36, .cell 5 77] [(0, _), (1, _)] Try.func28 rfl rfl rfl (lb rfl) Try.call28 ⟨rfl, rfl, trivial⟩ ?_
    intro cx fin fin0
    refine aG ?_
    repeat (first | refine gw ?_ | refine gN fun _ => ?_ | refine gB fun _ => ?_ | fail)
    refine aC (o := hF) (h := ?_) (hro := RoIn.all (fun p hp => by simp [hp]))
    rintro _ _ ⟨rfl, rfl⟩
    refine aG ?_
    repeat (first | refine gx ?_ | refine gN fun _ => ?_ | refine gB fun _ => ?_ | fail)
    refine aC (o := hP [] (by simp) none 0 [] ⟨rfl, .inl ⟨rfl, rfl⟩⟩) (h := ?_) (hro := RoIn.nil)
    rintro _ _ ⟨an, cn, Hn, rfl, rfl, hn⟩
    refine aG ?_
    repeat (first | refine gx ?_ | refine gN fun _ => ?_ | refine gB fun _ => ?_ | fail)
    refine aBu (ps := []) ?_
    repeat (first | refine gx ?_ | refine gN fun _ => ?_ | refine gB fun _ => ?_ | fail)
    refine W.order [0, 0, 0] rfl ?_
    refine W.ret (fin _ _ (FinOk.first 1 (aRc (aRc .nil)) rfl ?_))
    exact ⟨Hn, _, rfl, rfl, a, c, r, an, cn, _, ag, cg, rg, rfl, h2, hn.roSl, h4, hn.cap_le, fun q hq => List.mem_append_right _ (h6 q hq), fun q hq => List.mem_append_left _ hq, fun q hq => List.mem_append_right _ (h8 q hq)⟩
  | some i =>
    obtain ⟨j, hj, rfl, -, -⟩ := hi.tbl qp i hg
    rw [hg] at hF
    simp only
    rw [Pt.at_nat hj]
    have c1 : (0 : Int) ≤ (j : Int) := by omega
    obtain ⟨bx, ox, lx, ex, frx, rfl, hmem, _, hld⟩ := doc_at h2 hj
    have ld : lx[ox + j * 6 + 1]? = some (.bool p.fs[j].dirty) := hld 1 (by decide)
    generalize p.fs[j] = f at *
    obtain ⟨fu, fd, fr, fn, fp, fb⟩ := f
    simp only at ld ⊢
    cases fd with
    | false =>
      rw [if_neg (by simp)]
      refine Ctr.enter (n := 210) [.cell 4 36, .cell 5 77] [(0, _), (1, _)] Try.func28 rfl rfl rfl (lb rfl) Try.call28 ⟨rfl, rfl, trivial⟩ ?_
      intro cx fin fin0
      refine aG ?_
      repeat (first | refine gw ?_ | refine gN fun _ => ?_ | refine gB fun _ => ?_ | fail)
      refine aC (o := hF) (h := ?_) (hro := RoIn.all (fun p hp => by simp [hp]))
      rintro _ _ ⟨rfl, rfl⟩
      refine aG ?_
      repeat (first | refine gh c1 ?_ | refine gN fun _ => ?_ | refine gB fun _ => ?_ | fail)
      refine aV (OpVal.maxL (i := (j : Int)) rfl rfl (by omega)) ?_
      repeat (first | refine gx ?_ | refine gN fun _ => ?_ | refine gB fun _ => ?_ | fail)
      refine aV (OpVal.ixSl tab_ok rfl rfl rfl rfl rfl hj) ?_
      repeat (first | refine gx ?_ | refine gN fun _ => ?_ | refine gB fun _ => ?_ | fail)
      refine aV (OpVal.load tab_ok rfl (show At _ _ bx (.cells lx.toArray ex frx) from .inr (by simp [h6 _ hmem])) ld) ?_
      repeat (first | refine gh c1 ?_ | refine gN fun _ => ?_ | refine gB fun _ => ?_ | fail)
      refine aC (o := hP [] (by simp) none 0 [] ⟨rfl, .inl ⟨rfl, rfl⟩⟩) (h := ?_) (hro := RoIn.nil)
      rintro _ _ ⟨an, cn, Hn, rfl, rfl, hn⟩
      refine aG ?_
      repeat (first | refine gx ?_ | refine gN fun _ => ?_ | refine gB fun _ => ?_ | fail)
      refine aBu (ps := []) ?_
      repeat (first | refine gx ?_ | refine gN fun _ => ?_ | refine gB fun _ => ?_ | fail)
      refine W.order [0, 0, 0] rfl ?_
      refine W.ret (fin _ _ (FinOk.first 1 (aRc (aRc .nil)) rfl ?_))
      exact ⟨Hn, _, rfl, rfl, _, c, r, an, cn, _, ag, cg, rg, rfl, h2, hn.roSl, h4, hn.cap_le, fun q hq => List.mem_append_right _ (h6 q hq), fun q hq => List.mem_append_left _ hq, fun q hq => List.mem_append_right _ (h8 q hq)⟩
    | true =>
      rw [if_pos rfl]
      refine Ctr.enter (n := 210) [.cell 4 36, .cell 5 77] [(0, _), (1, _)] Try.func28 rfl rfl rfl (lb rfl) Try.call28 ⟨rfl, rfl, trivial⟩ ?_
      intro cx fin fin0
      refine aG ?_
      repeat (first | refine gw ?_ | refine gN fun _ => ?_ | refine gB fun _ => ?_ | fail)
      refine aC (o := hF) (h := ?_) (hro := RoIn.all (fun p hp => by simp [hp]))
      rintro _ _ ⟨rfl, rfl⟩
      refine aG ?_
      repeat (first | refine gh c1 ?_ | refine gN fun _ => ?_ | refine gB fun _ => ?_ | fail)
      refine aV (OpVal.maxL (i := (j : Int)) rfl rfl (by omega)) ?_
      repeat (first | refine gx ?_ | refine gN fun _ => ?_ | refine gB fun _ => ?_ | fail)
      refine aV (OpVal.ixSl tab_ok rfl rfl rfl rfl rfl hj) ?_
      repeat (first | refine gx ?_ | refine gN fun _ => ?_ | refine gB fun _ => ?_ | fail)
      refine aV (OpVal.load tab_ok rfl (show At _ _ bx (.cells lx.toArray ex frx) from .inr (by simp [h6 _ hmem])) ld) ?_
      repeat (first | refine gh c1 ?_ | refine gN fun _ => ?_ | refine gB fun _ => ?_ | fail)
      refine aSl (ps := [_]) ?_
      intro bq
      refine aG ?_
      refine W.nilChunk ?_
      have hown : Own 1 3 (ints []) none 0 0 [] := Own.nil _ _
      refine aAp (hown) ?_
      rintro _ _ ⟨_, _, _, rfl, rfl, ho⟩
      refine aG ?_
      have ei : ints [] ++ [.int .i64 qp] = ints [qp] := rfl
      rw [ei] at ho
      repeat (first | refine gx ?_ | refine gN fun _ => ?_ | refine gB fun _ => ?_ | fail)
      refine aC (o := hP [qp] (by simp) _ _ _ (Own.roSl ho)) (h := ?_) (hro := RoIn.own 0 rfl)
      rintro _ _ ⟨an, cn, Hn, rfl, rfl, hn⟩
      refine aG ?_
      repeat (first | refine gx ?_ | refine gN fun _ => ?_ | refine gB fun _ => ?_ | fail)
      refine aBu (ps := []) ?_
      repeat (first | refine gx ?_ | refine gN fun _ => ?_ | refine gB fun _ => ?_ | fail)
      refine W.order [0, 2, 2] rfl ?_
      refine W.ret (fin _ _ (FinOk.first 1 (aRc (aRc .nil)) rfl ?_))
      exact ⟨Hn, _, rfl, rfl, _, c, r, an, cn, _, ag, cg, rg, rfl, h2, hn.roSl, h4, hn.cap_le, fun q hq => List.mem_append_right _ (h6 q hq), fun q hq => List.mem_append_left _ hq, fun q hq => List.mem_append_right _ (h8 q hq)⟩
end Go.Proofs.Ytgipjpiiomgjjaa
