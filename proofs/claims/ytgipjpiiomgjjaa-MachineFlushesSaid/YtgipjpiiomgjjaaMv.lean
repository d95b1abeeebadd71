/-
  Behind a flushall no frame is dirty, and its pages are as they were.
-/
import Derived.Test.YtgipjpiiomgjjaaMt
namespace Go.Proofs.Ytgipjpiiomgjjaa
open Go Go.Sl Go.IntWalk
set_option maxHeartbeats 8000000
set_option maxRecDepth 20000
/-- Whatever is dirty is still to be stored. -/
def Owes (m : Mc) (p : Pt) : Prop := ∀ j (h : j < p.fs.length), p.fs[j].dirty = true → ((2 : Int), p.fs[j].page, (1 : Int)) ∈ m.todo
def bytesOf (p : Pt) : List (List Int) := p.fs.map Fr.b
theorem mStep_owes {m : Mc} {p : Pt} (h : MInv m p) (hne : m.todo ≠ []) (ho : m.op ≠ 1) (hw : Owes m p) (bs : List Int) : Owes (mStep m p bs).1 (mStep m p bs).2.1 ∧ bytesOf (mStep m p bs).2.1 = bytesOf p := by
  have htd := mStep_todo m p bs
  cases ht : m.todo with
  | nil => exact absurd ht hne
  | cons x rest =>
    have hio : m.io = x := by unfold Mc.io; rw [ht]; rfl
    have hin : ∀ j (hj : j < p.fs.length), p.fs[j].dirty = true → ¬ (x.1 = 2 ∧ x.2.2 = 1 ∧ x.2.1 = p.fs[j].page) → ((2 : Int), p.fs[j].page, (1 : Int)) ∈ m.todo.tail := fun j hj hd hx => by
      have := hw j hj hd
      rw [ht] at this ⊢
      rcases List.mem_cons.1 this with e | h
      · exact absurd (by rw [← e]; exact ⟨rfl, rfl, rfl⟩) hx
      · exact h
    unfold Owes
    rw [htd]
    unfold mStep
    rw [hio]
    by_cases hA : x.1 = 2 ∧ x.2.2 = 1
    · rw [if_pos hA]
      obtain ⟨j0, hj0, hg, -⟩ := end_sto h hne (by rw [hio]; exact hA)
      rw [hio] at hg
      unfold mStored
      rw [hg, Option.getD_some, if_neg ho, clean_fs hj0]
      refine ⟨fun j hj hd => ?_, map_set_eq Fr.b p.fs j0 _ hj0 rfl⟩
      have hjl : j < p.fs.length := by simpa [Pt.setF] using hj
      simp only [Pt.setF, List.getElem_set] at hd ⊢
      split at hd
      · cases hd
      · rename_i hne2
        rw [if_neg hne2]
        refine hin j hjl hd ?_
        rintro ⟨-, -, e⟩
        have := h.inv.inv j hjl (dirty_used h.inv hjl hd)
        rw [← e, hg] at this
        simp at this
        omega
    · rw [if_neg hA]
      split
      · exact ⟨fun j hj hd => hin j hj hd (fun hx => hA ⟨hx.1, hx.2.1⟩), rfl⟩
      · exact ⟨fun j hj hd => hin j hj hd (fun hx => hA ⟨hx.1, hx.2.1⟩), rfl⟩
theorem mStep_op (m : Mc) (p : Pt) (bs : List Int) : (mStep m p bs).1.op = m.op := by
  unfold mStep
  split
  · rfl
  · split <;> rfl
theorem wLoop_owes {q : Rq} (hu : u8ok q.data) {s : Mc × Pt} (h : MInv s.1 s.2) (ho : s.1.op ≠ 1) (hw : Owes s.1 s.2) : ∀ k, k ≤ s.1.todo.length → Owes (wLoop q k s).1 (wLoop q k s).2 ∧ bytesOf (wLoop q k s).2 = bytesOf s.2 ∧ (k < s.1.todo.length → (wLoop q k s).1.op ≠ 1)
  | 0, _ => ⟨hw, rfl, fun _ => ho⟩
  | k + 1, hk => by
    obtain ⟨h1, h2, h3⟩ := wLoop_owes hu h ho hw k (by omega)
    have hi := wLoop_inv hu h k (by omega)
    have hl := wLoop_todo q s k (by omega)
    have hop := h3 (by omega)
    show Owes (wStep (wLoop q k s).1 (wLoop q k s).2 q false).1 (wStep (wLoop q k s).1 (wLoop q k s).2 q false).2 ∧ bytesOf (wStep (wLoop q k s).1 (wLoop q k s).2 q false).2 = _ ∧ (_ → (wStep (wLoop q k s).1 (wLoop q k s).2 q false).1.op ≠ 1)
    generalize wLoop q k s = t at *
    have hne : t.1.todo ≠ [] := by intro h0; rw [h0] at hl; simp at hl; omega
    obtain ⟨g1, g2⟩ := mStep_owes hi hne hop h1 (fill q.data 16)
    unfold wStep mEnd
    rw [if_neg hne]
    simp only [Bool.false_eq_true, if_false, ne_eq, not_true_eq_false]
    by_cases hp : 0 < (mStep t.1 t.2 (fill q.data 16)).1.todo.length
    · simp only [if_pos hp]
      exact ⟨g1, g2.trans h2, fun _ => by rw [mStep_op]; exact hop⟩
    · simp only [if_neg hp, if_neg hop]
      have h0 : (mStep t.1 t.2 (fill q.data 16)).1.todo = [] := List.eq_nil_of_length_eq_zero (by omega)
      refine ⟨fun j hj hd => ?_, g2.trans h2, fun hlt => ?_⟩
      · have := g1 j hj hd
        rw [h0] at this
        cases this
      · rw [mStep_todo, List.length_tail] at hp
        omega
theorem mem_dirtyFrom : ∀ {fs : List Fr} {k j : Nat} (h : j < fs.length), fs[j].dirty = true → ((k + j : Nat) : Int) ∈ dirtyFrom fs k
  | f :: fs, k, 0, _, hd => by
    have hd' : f.dirty = true := hd
    unfold dirtyFrom
    rw [if_pos hd']
    exact List.mem_cons_self
  | f :: fs, k, j + 1, h, hd => by
    have := mem_dirtyFrom (k := k + 1) (j := j) (fs := fs) (by simpa using h) hd
    rw [show k + 1 + j = k + (j + 1) by omega] at this
    unfold dirtyFrom
    split
    · exact List.mem_cons_of_mem _ this
    · exact this
theorem dirty_none : ∀ {fs : List Fr} {k : Nat}, (∀ j (h : j < fs.length), fs[j].dirty ≠ true) → dirtyFrom fs k = []
  | [], _, _ => rfl
  | f :: fs, k, h => by
    unfold dirtyFrom
    rw [if_neg (show ¬ f.dirty = true from h 0 (by simp))]
    exact dirty_none fun j hj => h (j + 1) (by simpa using hj)
theorem selD_all (p : Pt) (ds : List Int) : selD p (-1) ds = ds.map fun i => (p.at_ i).page := by
  unfold selD
  exact congrArg (List.map _) (List.filter_eq_self.2 fun _ _ => rfl)
def fq : Rq := ⟨6, 0, 0, 0, []⟩
theorem flush_all {m : Mc} {p : Pt} (h : MInv m p) (ht : m.todo = []) : (wStep m p fq false).1.todo.length = 2 * p.dirty.length + 1 ∧ (wRun m p fq).2.dirty = [] ∧ bytesOf (wRun m p fq).2 = bytesOf p := by
  have hs : wStep m p fq false = (⟨6, 0, m.to, planFlush (selD p (-1) p.dirty), m.got⟩, p) := by
    unfold wStep
    rw [if_pos ht]
    rfl
  have hi2 := wStep_inv h (q := fq) ⟨by decide, by decide, ⟨by decide, by decide⟩, ⟨by decide, by decide⟩, nil_u8, by decide⟩ false
  have hw : Owes (wStep m p fq false).1 (wStep m p fq false).2 := by
    rw [hs]
    intro j hj hd
    have h1 := mem_dirtyFrom (k := 0) hj hd
    show _ ∈ planFlush (selD p (-1) p.dirty)
    unfold planFlush pages
    refine List.mem_append_left _ (List.mem_flatMap.2 ⟨p.fs[j].page, ?_, by simp [both]⟩)
    rw [selD_all]
    refine List.mem_map.2 ⟨(j : Int), by simpa [Pt.dirty] using h1, ?_⟩
    rw [Pt.at_nat hj]
  obtain ⟨g1, g2, -⟩ := wLoop_owes (q := fq) nil_u8 hi2 (by rw [hs]; show ¬ (6 : Int) = 1; decide) hw _ (Nat.le_refl _)
  refine ⟨?_, dirty_none fun j hj hd => ?_, ?_⟩
  · rw [hs]
    show (planFlush (selD p (-1) p.dirty)).length = _
    unfold planFlush
    rw [List.length_append, pages_len, selD_all, List.length_map]
    rfl
  · have := g1 j hj hd
    have h0 := wRun_todo m p fq
    unfold wRun at h0
    rw [h0] at this
    cases this
  · unfold wRun
    rw [g2, hs]
theorem MachineFlushes_spec (n : Int) (hn : i64s n) (qs : List QD) (hqs : ∀ o ∈ qs, QD.Ok o) (a : Option Addr) (c : Nat) (ro : HL) (hro : RoSl 5 (qs.flatMap QD.l) a qs.length ro) :
    Ctr Try.prog 8 [.int .i64 n, .slice a qs.length c] [] (ro ++ qros qs) (fun v L' => v = .bool true ∧ L' = []) := by
  have rn := around_range n 4 (by decide)
  obtain ⟨kk, hkk⟩ : ∃ kk : Nat, 1 + around n 4 = (kk : Int) := ⟨(1 + around n 4).toNat, by omega⟩
  have hk1 : 1 ≤ kk := by omega
  have hk4 : kk ≤ 64 := by omega
  have hA := Around_spec n 4 hn (by decide)
  have hW := WBegin_spec kk hk1 hk4
  have hL := Lives_spec
  refine Ctr.enter (n := 100) [.tmp 4] [(0, _), (1, _)] Try.func8 rfl rfl rfl (lb rfl) Try.call8 ⟨rfl, rfl, trivial⟩ ?_
  intro cx fin fin0
  refine aG ?_
  repeat (first | refine gx ?_ | refine gN fun _ => ?_ | refine gB fun _ => ?_ | fail)
  refine aC (o := hA) (h := ?_)
  rintro _ _ ⟨rfl, rfl⟩
  refine aG ?_
  refine aV (OpVal.add rfl rfl (i64_in _ (by omega))) ?_
  rw [hkk]
  refine aC (o := hW) (h := ?_)
  rintro _ _ ⟨b, bm, bp, Hw, Hm, Hp, rfl, rfl, hw⟩
  refine aG ?_
  repeat (first | refine gx ?_ | refine gN fun _ => ?_ | refine gB fun _ => ?_ | fail)
  refine aLp (fun k ρ1 L1 => ∃ (i : Nat) (m : Mc) (p : Pt) (Hw Hm Hp : HL), i ≤ 12 ∧ MInv m p ∧ m.todo = [] ∧ p.fs.length = kk ∧ WAt m p b bm bp Hw Hm Hp ∧ k = 12 - i ∧ ρ1 = [(7, .int .i64 (i : Int)), (6, .pointer (some ⟨b, 0, none⟩)), (5, .int .i64 (kk : Int)), (1, .slice a qs.length c)] ∧ L1 = [Hw, Hm, Hp]) (o := ⟨0, Mc.idle, Pt.new kk, Hw, Hm, Hp, by decide, idle_inv (Pt.new_inv hk1 hk4), rfl, by simp [Pt.new], hw, rfl, rfl, rfl⟩) (h := ?_)
  clear hw
  rintro k ρ1 L1 ⟨i, m, p, Hw, Hm, Hp, hi24, hinv, ht, hpl, hw, rfl, rfl, rfl⟩
  refine aG ?_
  by_cases hc : ((i : Int) < (qs.length : Int)) ∧ (i : Int) < 12
  · obtain ⟨hc1, hc2⟩ := hc
    repeat (first | refine gx ?_ | refine gN fun _ => ?_ | refine gB fun _ => ?_ | fail)
    have hil : i < qs.length := by omega
    obtain ⟨bx, ox, lx, ex, frx, rfl, rfl, hseg, hO, hmem⟩ := row_at hqs hro hil
    generalize qs[i] = o at hseg hO hmem
    have hG := Good_spec o.q hO.inn 6 (by decide) o.b.a o.b.cap o.b.ro hO.ro
    have hq := gq_ok o.q 6 (by decide) hO.u8
    have hR := fun a' c' H' hr => Run_spec m p hinv ht b bm bp Hw Hm Hp hw (gq o.q 6) hq a' c' H' hr
    have hinv2 := wRun_inv hinv hq
    have htodo := wRun_todo m p (gq o.q 6)
    have hpl2 := wRun_len m p (gq o.q 6)
    generalize (wStep m p (gq o.q 6) false).1.todo.length = st at *
    refine aV (OpVal.ixSl tab_ok rfl rfl rfl rfl rfl hil) ?_
    refine aV (OpVal.loadN ty_25.1 ty_25.2 rfl (show At _ _ bx (.cells lx.toArray ex frx) from .inr (by simp)) hseg) ?_
    refine aC (o := hG) (h := ?_) (hro := RoIn.all (fun q hq => by simp [hmem q hq]))
    rintro _ _ ⟨a5, c5, H5, rfl, rfl, h5⟩
    refine aG ?_
    repeat (first | refine gx ?_ | refine gN fun _ => ?_ | refine gB fun _ => ?_ | fail)
    refine aC (o := hR a5 c5 H5 h5) (h := ?_) (hro := RoIn.own 0 rfl)
    rintro _ _ ⟨Hw2, Hm2, Hp2, rfl, rfl, hw2⟩
    refine aG ?_
    have hs0 : ¬ (st : Int) < 0 := by omega
    repeat (first | refine gh hs0 ?_ | refine gN fun _ => ?_ | refine gB fun _ => ?_ | fail)
    refine W.order [0, 0, 0] rfl ?_
    refine aR (o := ⟨12 - (i + 1), by omega, i + 1, _, _, _, _, _, by omega, hinv2, htodo, by rw [hpl2, hpl], hw2, rfl, rfl, rfl⟩)
  · have hfq : fq.Ok := ⟨by decide, by decide, ⟨by decide, by decide⟩, ⟨by decide, by decide⟩, nil_u8, by decide⟩
    have hR := Run_spec m p hinv ht b bm bp Hw Hm Hp hw fq hfq none 0 [] ⟨rfl, .inl ⟨rfl, rfl⟩⟩
    obtain ⟨e1, e2, e3⟩ := flush_all hinv ht
    have hlen2 := wRun_len m p fq
    have hinv2 := wRun_inv hinv hfq
    rw [e1] at hR
    have hdl := dirty_len p
    have h64 := hinv.inv.ok.2.2
    generalize wRun m p fq = s at *
    have hw3 := hw
    obtain ⟨a8, c8, r, at_, ct, rt, ag, cg, rg, D, rfl, h2, h3, h4, h5, h6, h7, h8, hm, hp⟩ := hw
    have hD := PDirty_spec p hinv.inv.ok bp Hp hp
    have hAt := fun i => PAt_spec p hinv.inv.ok bp Hp hp i
    rcases (show ¬ ((i : Int) < (qs.length : Int)) ∨ (((i : Int) < (qs.length : Int)) ∧ ¬ (i : Int) < 12) by omega) with hx | ⟨hx1, hx2⟩
    all_goals
      refine split2 rfl ?_
      refine aG ?_
      repeat (first | refine gx ?_ | refine gN fun _ => ?_ | refine gB fun _ => ?_ | fail)
      refine aC (o := hD) (h := ?_) (hro := RoIn.own 3 rfl)
      rintro _ _ ⟨ad, cd, Hs, rfl, rfl, hds⟩
      refine aG ?_
      repeat (first | refine gx ?_ | refine gN fun _ => ?_ | refine gB fun _ => ?_ | fail)
      refine W.order [1, 1, 1, 1] rfl ?_
      refine W.nilChunk ?_
      refine aLp (fun k ρ1 L1 => ∃ (j : Nat) (aw : Option Addr) (cw : Nat) (Hx : HL), j ≤ kk ∧ k = kk - j ∧ Own 1 9 ((p.fs.take j).flatMap fun f => [Value.string (bstr f.b)]) aw j cw Hx ∧ ρ1 = [(10, .int .i64 (j : Int)), (9, .slice aw j cw), (8, .int .i64 (p.dirty.length : Int)), (6, .pointer (some ⟨b, 0, none⟩)), (5, .int .i64 (kk : Int))] ∧ L1 = [Hx, [(b, Obj.cells (List.toArray [.pointer (some ⟨bm, 0, none⟩), .pointer (some ⟨bp, 0, none⟩), .slice a8 p.fs.length c8, .int .i64 p.hand, .int .i64 m.op, .int .i64 m.page, .slice at_ m.todo.length ct, .int .i64 m.to, .slice ag m.got.length cg]) 40 (0, 0))], D, Hm, Hp]) (o := ⟨0, none, 0, [], Nat.zero_le _, rfl, Own.nil 1 _, rfl, rfl⟩) (h := ?_)
      rintro k ρ1 L1 ⟨j, aw, cw, Hx, hj, rfl, how, rfl, rfl⟩
      refine aG ?_
      by_cases hlt : j < kk
      · have hjz : (j : Int) < (kk : Int) := by omega
        have hjl : j < p.fs.length := by omega
        have hA1 := hAt (j : Int)
        rw [Pt.at_nat hjl] at hA1
        have hfo := hinv.inv.ok.1 _ (List.getElem_mem hjl)
        have hnx : (p.fs.take (j + 1)).flatMap (fun f => [Value.string (bstr f.b)]) = (p.fs.take j).flatMap (fun f => [Value.string (bstr f.b)]) ++ [Value.string (bstr p.fs[j].b)] := by
          rw [List.take_add_one, List.getElem?_eq_getElem hjl, Option.toList_some, List.flatMap_append]
          rfl
        generalize p.fs[j] = f at *
        have h32 : f.b.length = 32 := hfo
        repeat (first | refine gh hjz ?_ | refine gN fun _ => ?_ | refine gB fun _ => ?_ | fail)
        refine aC (o := hA1) (h := ?_) (hro := RoIn.own 4 rfl)
        rintro _ _ ⟨rfl, rfl⟩
        refine aG ?_
        refine aN ?_
        intro c1
        refine aG ?_
        refine W.store tab_ok rfl Upd.here rfl rfl rfl (Fr.l_len hfo) f.l_one (splice_all (by rw [Fr.l_len hfo]; rfl)) (aG ?_)
        refine aC (o := FBytes_spec f hfo c1) (h := ?_)
        rintro _ _ ⟨c2, rfl, rfl⟩
        refine aG ?_
        have hor : RoSl 1 (u8s f.b) (some ⟨c2, 0, none⟩) 32 [(c2, .cells (u8s f.b).toArray 56 (0, 0))] := by
          have := own_roT c2 f.b 56
          rw [h32] at this
          exact this
        refine aV (OpVal.bytesStr (bs := f.b) tab_ok rfl rfl rfl rfl hor (fun p hp => by simp at hp; subst hp; exact at_own 0 rfl)) ?_
        refine aSl (ps := [_]) ?_
        intro bt
        refine aG ?_
        refine aAp (how) ?_
        rintro _ _ ⟨_, _, _, rfl, rfl, ho⟩
        refine aG ?_
        refine aV (OpVal.add rfl rfl (i64_in _ (by omega))) ?_
        rw [← hnx] at ho
        refine W.order [0, 3, 3, 3, 3] rfl ?_
        refine aR (o := ⟨kk - (j + 1), by omega, j + 1, _, _, _, by omega, rfl, ho, rfl, rfl⟩)
      obtain rfl : j = kk := by omega
      have hjz : ¬ (j : Int) < (j : Int) := by omega
      repeat (first | refine gh hjz ?_ | refine gN fun _ => ?_ | refine gB fun _ => ?_ | fail)
      refine aBu (ps := [_]) ?_
      refine W.groupV [1, 1] rfl ?_
      refine aC (o := hR) (h := ?_)
      rintro _ _ ⟨Hw4, Hm4, Hp4, rfl, rfl, hw4⟩
      refine aG ?_
      have hw5 := hw4
      obtain ⟨a9, c9, r9, at9, ct9, rt9, ag9, cg9, rg9, D9, rfl, k2, k3, k4, k5, k6, k7, k8, km, kp⟩ := hw4
      refine split2 rfl ?_
      have hD2 := PDirty_spec s.2 hinv2.inv.ok bp Hp4 kp
      rw [e2] at hD2
      have hAt2 := fun i => PAt_spec s.2 hinv2.inv.ok bp Hp4 kp i
      refine aG ?_
      refine aV (OpVal.mul rfl rfl (i64_in _ (by omega))) ?_
      refine aV (OpVal.add rfl rfl (i64_in _ (by omega))) ?_
      have hq2 : ((2 * p.dirty.length + 1 : Nat) : Int) = 2 * (p.dirty.length : Int) + 1 := by omega
      repeat (first | refine gh hq2 ?_ | refine gN fun _ => ?_ | refine gB fun _ => ?_ | fail)
      refine aC (o := hD2) (h := ?_) (hro := RoIn.own 3 rfl)
      rintro _ _ ⟨ad2, cd2, Hs2, rfl, rfl, hds2⟩
      refine aG ?_
      repeat (first | refine gx ?_ | refine gN fun _ => ?_ | refine gB fun _ => ?_ | fail)
      refine W.order [1, 1, 1, 1, 1] rfl ?_
      rw [List.take_of_length_le (by omega)] at how
      refine aLp (fun k ρ1 L1 => ∃ i : Nat, i ≤ j ∧ k = j - i ∧ ρ1 = [(12, .int .i64 (i : Int)), (9, .slice aw j cw), (6, .pointer (some ⟨b, 0, none⟩)), (5, .int .i64 (j : Int))] ∧ L1 = [[(b, Obj.cells (List.toArray [.pointer (some ⟨bm, 0, none⟩), .pointer (some ⟨bp, 0, none⟩), .slice a9 s.2.fs.length c9, .int .i64 s.2.hand, .int .i64 s.1.op, .int .i64 s.1.page, .slice at9 s.1.todo.length ct9, .int .i64 s.1.to, .slice ag9 s.1.got.length cg9]) 40 (0, 0))], D9, Hm4, Hp4, Hx]) (o := ⟨0, Nat.zero_le _, rfl, rfl, rfl⟩) (h := ?_)
      rintro k ρ1 L1 ⟨i2, hi2, rfl, rfl, rfl⟩
      refine aG ?_
      by_cases hlt : i2 < j
      · have hjz : (i2 : Int) < (j : Int) := by omega
        have hl1 : i2 < p.fs.length := by omega
        have hl2 : i2 < s.2.fs.length := by omega
        have hA1 := hAt2 (i2 : Int)
        rw [Pt.at_nat hl2] at hA1
        have hfo := hinv2.inv.ok.1 _ (List.getElem_mem hl2)
        have hby : p.fs[i2].b = s.2.fs[i2].b := by
          have := congrArg (·[i2]?) e3
          simp only [bytesOf, List.getElem?_map, List.getElem?_eq_getElem hl1, List.getElem?_eq_getElem hl2, Option.map_some, Option.some.injEq] at this
          exact this.symm
        have hro2 := Own.roSl how
        rw [← hpl] at hro2
        obtain ⟨bx, ox, lx, ex, frx, rfl, rfl, -, hld⟩ := RoSl.at (f := fun f : Fr => [Value.string (bstr f.b)]) (m := 1) (fun _ => rfl) hro2 hl1
        have l0 : lx[ox + i2 * 1]? = some (.string (bstr p.fs[i2].b)) := hld 0 (by decide)
        rw [hby] at l0
        generalize s.2.fs[i2] = f at *
        have h32 : f.b.length = 32 := hfo
        repeat (first | refine gh hjz ?_ | refine gN fun _ => ?_ | refine gB fun _ => ?_ | fail)
        refine aC (o := hA1) (h := ?_) (hro := RoIn.own 3 rfl)
        rintro _ _ ⟨rfl, rfl⟩
        refine aG ?_
        refine aN ?_
        intro c1
        refine aG ?_
        refine W.store tab_ok rfl Upd.here rfl rfl rfl (Fr.l_len hfo) f.l_one (splice_all (by rw [Fr.l_len hfo]; rfl)) (aG ?_)
        have hor : ∀ c, RoSl 1 (u8s f.b) (some ⟨c, 0, none⟩) 32 [(c, .cells (u8s f.b).toArray 56 (0, 0))] := fun c => by
          have := own_roT c f.b 56
          rw [h32] at this
          exact this
        refine W.drawH tab_ok 7 [.b true, .b true, .b false, .b false, .b false, .b false, .b false] [] follows (by decide +kernel) (by decide +kernel) rfl (by decide) rfl ?_
        intro _
        refine dG ?_
        refine dC (o := FBytes_spec f hfo c1) (h := ?_)
        rintro _ _ ⟨c2, rfl, rfl⟩
        refine dG ?_
        refine WD.valA (OpVal.bytesStr (bs := f.b) tab_ok rfl rfl rfl rfl (hor c2) (fun p hp => by simp at hp; subst hp; exact at_own 0 rfl)) (by exact Nat.le_of_ble_eq_true rfl) (WD.step tab_ok rfl rfl ?_)
        refine dV (OpVal.ixSl tab_ok rfl rfl rfl rfl rfl hlt) ?_
        refine dV (OpVal.load tab_ok rfl (show At _ _ bx (.cells lx.toArray ex frx) from .inr (by simp)) l0) ?_
        refine dV (OpVal.neStr rfl rfl) ?_
        refine WD.nil (W.dropNil (aG ?_))
        repeat (first | refine gh hjz ?_ | refine gN fun _ => ?_ | refine gB fun _ => ?_ | fail)
        refine W.order [2, 2, 2, 2, 2] rfl ?_
        refine aR (o := ⟨j - (i2 + 1), by omega, i2 + 1, by omega, rfl, rfl, rfl⟩)
      obtain rfl : i2 = j := by omega
      have hjz2 : ¬ (i2 : Int) < (i2 : Int) := by omega
      repeat (first | refine gh hjz2 ?_ | refine gN fun _ => ?_ | refine gB fun _ => ?_ | fail)
      refine W.groupV [0, 0] rfl ?_
      refine aC (o := Like_spec _ _ hinv2 b bm bp _ _ _ hw5) (h := ?_) (hro := RoIn.append (RoIn.own 0 rfl) (RoIn.append (RoIn.own 1 rfl) (RoIn.own 2 rfl)))
      rintro _ _ ⟨rfl, rfl⟩
      refine aG ?_
      repeat (first | refine gx ?_ | refine gN fun _ => ?_ | refine gB fun _ => ?_ | fail)
      refine aC (o := hL) (h := ?_) (hro := RoIn.nil)
      rintro _ _ ⟨rfl, rfl⟩
      refine aG ?_
      repeat (first | refine gx ?_ | refine gN fun _ => ?_ | refine gB fun _ => ?_ | fail)
      refine W.ret (fin _ _ (FinOk.mk' ([]) (.tmp rfl .nil) (by repeat (first | exact Sel.nil | (apply Sel.cons; (repeat (first | exact Pick.here | apply Pick.there))))) rfl ?_))
      exact ⟨rfl, rfl⟩
end Go.Proofs.Ytgipjpiiomgjjaa
