/-
  The document's partitions: New, Find, With, Load, Release, Clean, Do.
-/
import Derived.Test.YtgipjpiiomgjjaaDa
-- short
namespace Go.Proofs.Ytgipjpiiomgjjaa
set_option linter.unusedVariables false
open Go Go.Sl Go.IntWalk
set_option maxHeartbeats 4000000
set_option maxRecDepth 20000
def dflat (fs : List Fr) : List Value := fs.flatMap Fr.dl
theorem Fr.dl_len (f : Fr) : f.dl.length = 6 := rfl
theorem dflat_len (fs : List Fr) : (dflat fs).length = fs.length * 6 := flatMap_len Fr.dl 6 Fr.dl_len fs
theorem Fr.dl_one (f : Fr) : allOne f.dl = true := rfl
theorem dflat_one (fs : List Fr) : allOne (dflat fs) = true := by
  refine allOne_of fun v hv => ?_
  obtain ⟨f, _, hf⟩ := List.mem_flatMap.1 hv
  exact allOne_mem f.dl_one v hf
/-- 'v' is the document's partition of frames fs, the hand at 'hand'; its blocks are among D. -/
def DocIn (fs : List Fr) (hand : Int) (v : Value) (D : HL) : Prop := ∃ a cap ro, v = .agg #[.slice a fs.length cap, .int .i64 hand] ∧ RoSl 6 (dflat fs) a fs.length ro ∧ ∀ p ∈ ro, p ∈ D
theorem DocIn.mono {fs : List Fr} {hand : Int} {v : Value} {D D' : HL} (h : DocIn fs hand v D) (hs : ∀ p ∈ D, p ∈ D') : DocIn fs hand v D' := by
  obtain ⟨a, cap, ro, h1, h2, h3⟩ := h
  exact ⟨a, cap, ro, h1, h2, fun p hp => hs p (h3 p hp)⟩
theorem DocIn.own {fs : List Fr} {hand : Int} {a : Option Addr} {cap : Nat} {H : HL} {e : Nat} (h : Own 6 e (dflat fs) a fs.length cap H) : DocIn fs hand (.agg #[.slice a fs.length cap, .int .i64 hand]) H :=
  ⟨a, cap, H, rfl, Own.roSl h, fun p hp => hp⟩
/-- What is read of a frame. -/
theorem doc_at {fs : List Fr} {a : Option Addr} {ro : HL} (h : RoSl 6 (dflat fs) a fs.length ro) {i : Nat} (hi : i < fs.length) :
    ∃ b off l e fr, a = some ⟨b, off, none⟩ ∧ (b, .cells (List.toArray l) e fr) ∈ ro ∧ seg? l (off + i * 6) 6 = some fs[i].dl ∧ ∀ k < 6, l[off + i * 6 + k]? = fs[i].dl[k]? := by
  obtain ⟨b, off, l, e, fr, h1, h2, h3, h4⟩ := RoSl.at Fr.dl_len h hi
  exact ⟨b, off, l, e, fr, h1, by rw [h2]; simp, h3, h4⟩
theorem RNew_spec (n : Nat) (hn : n ≤ 64) : Ctr Try.prog 26 [.int .i64 (n : Int)] [] [] (fun v L' => ∃ H, L' = [H] ∧ DocIn (Pt.new n).fs 0 v H) := by
  refine Ctr.enter (n := 17) [.cell 2 33] [(0, _)] Try.func26 rfl rfl rfl (lb rfl) Try.call26 ⟨rfl, trivial⟩ ?_
  intro cx fin fin0
  refine aG ?_
  repeat (first | refine gw ?_ | refine gN fun _ => ?_ | refine gB fun _ => ?_ | fail)
  rename_i b2 b3
  refine W.nilChunk ?_
  refine aLp (fun q ρ1 L1 => ∃ (j : Nat) (aa : Option Addr) (cc : Nat) (H : HL), j ≤ n ∧ Own 6 43 (dflat (List.replicate j Fr.zero)) aa j cc H ∧ q = n - j ∧ ρ1 = [(4, .int .i64 (j : Int)), (3, .pointer (some ⟨b3, 0, none⟩)), (2, .pointer (some ⟨b2, 0, none⟩)), (0, .int .i64 (n : Int))] ∧ L1 = [H, [(b3, .cells #[.slice aa j cc, .int .i64 0] 33 (0, 0))], [(b2, .cells #[.slice none 0 0, .int .i64 0] 33 (0, 0))]]) (o := ⟨0, none, 0, [], Nat.zero_le _, Own.nil _ _, rfl, rfl, rfl⟩) (h := ?_)
  rintro q ρ1 L1 ⟨j, aa, cc, H, hj, hown, rfl, rfl, rfl⟩
  refine aG ?_
  by_cases hlt : j < n
  · refine aT ?_ (hb := by simp; omega)
    have hnx : dflat (List.replicate j Fr.zero) ++ Fr.zero.dl = dflat (List.replicate (j + 1) Fr.zero) := by rw [List.replicate_succ']; simp [dflat]
    refine W.groupV [1] rfl ?_
    refine W.drawH tab_ok 4 [.b false, .b false, .b true, .b true] [] follows (by decide +kernel) (by decide +kernel) rfl (by decide) rfl ?_
    intro _
    refine dG ?_
    repeat (first | refine dL ?_ | refine dS ?_ | (refine dN ?_; intro _; refine dG ?_) | (refine dB ?_; intro _; refine dG ?_) | fail)
    refine dC (o := REmpty_spec) (h := ?_)
    rintro _ _ ⟨rfl, rfl⟩
    refine dG ?_
    refine dSl (ps := [_]) ?_
    intro bt
    refine dG ?_
    refine WD.nil (W.dropNil (aG ?_))
    refine aPr (appRo tab_ok rfl rfl rfl hown (by intro p hp; simp [hp]) rfl (cs := dflat (List.replicate j Fr.zero)) (news := Fr.zero.dl) (ro := [(bt, .cells Fr.zero.dl.toArray 43 (0, 0))]) ⟨rfl, .inr ⟨bt, 0, _, _, _, rfl, rfl, by decide, rfl⟩⟩ (fun p hp => by simp at hp; subst hp; exact at_own 0 rfl) Fr.zero.dl_one (by omega) (by omega)) ?_
    rintro _ _ ⟨a', cap', H', rfl, rfl, ho⟩
    refine aG ?_
    rw [hnx] at ho
    repeat (first | refine gx ?_ | refine gN fun _ => ?_ | refine gB fun _ => ?_ | fail)
    refine W.order [0, 1, 1] rfl ?_
    refine aR (o := ⟨n - (j + 1), by omega, j + 1, _, _, _, by omega, ho, rfl, rfl, rfl⟩)
  · refine aF ?_ (hb := by simp; omega)
    have hjn : j = n := by omega
    subst hjn
    repeat (first | refine gw ?_ | refine gN fun _ => ?_ | refine gB fun _ => ?_ | fail)
    refine W.ret (fin _ _ (FinOk.first 1 (aRc .nil) rfl ?_))
    refine ⟨H, rfl, ?_⟩
    have hl : (Pt.new j).fs.length = j := by simp [Pt.new]
    have := DocIn.own (hand := 0) (fs := (Pt.new j).fs) (a := aa) (cap := cc) (H := H) (e := 43) (by rw [hl]; exact hown)
    rw [hl] at this
    exact this
theorem RFind_spec (fs : List Fr) (hn : fs.length ≤ 64) (hand : Int) (v : Value) (D : HL) (hd : DocIn fs hand v D) (page : Int) : Ctr Try.prog 43 [v, .int .i64 page] [] D
    (fun v L' => L' = [] ∧ ((v = .int .i64 (-1) ∧ ∀ f ∈ fs, ¬ (f.used = true ∧ f.page = page)) ∨ ∃ (i : Nat) (h : i < fs.length), v = .int .i64 (i : Int) ∧ fs[i].used = true ∧ fs[i].page = page ∧ ∀ k (h2 : k < i), ¬ ((fs[k]'(by omega)).used = true ∧ (fs[k]'(by omega)).page = page))) := by
  obtain ⟨a, cap, ro, rfl, hro, hsub⟩ := hd
  refine Ctr.enter (n := 30) [.tmp 4] [(0, _), (1, _)] Try.func43 rfl rfl rfl (lb rfl) Try.call43 ⟨rfl, rfl, trivial⟩ ?_
  intro cx fin fin0
  refine aG ?_
  repeat (first | refine gw ?_ | refine gN fun _ => ?_ | refine gB fun _ => ?_ | fail)
  rename_i b2
  refine aLp (fun q ρ1 L1 => ∃ (j : Nat), j ≤ fs.length ∧ (∀ k (h : k < j) (h2 : k < fs.length), ¬ (fs[k].used = true ∧ fs[k].page = page)) ∧ q = fs.length - j ∧ ρ1 = [(5, .int .i64 (j : Int)), (2, .pointer (some ⟨b2, 0, none⟩)), (1, .int .i64 page)] ∧ L1 = [[(b2, .cells #[.slice a fs.length cap, .int .i64 hand] 33 (0, 0))]]) (o := ⟨0, Nat.zero_le _, (fun k h => by omega), rfl, rfl, rfl⟩) (h := ?_)
  rintro q ρ1 L1 ⟨j, hj, hall, rfl, rfl, rfl⟩
  refine aG ?_
  repeat (first | refine gw ?_ | refine gN fun _ => ?_ | refine gB fun _ => ?_ | fail)
  by_cases hlt : j < fs.length
  · refine aT ?_ (hb := by simp; omega)
    obtain ⟨bx, ox, lx, ex, frx, rfl, hmem, _, hld⟩ := doc_at hro hlt
    have hu := hld 0 (by decide)
    have hpg := hld 4 (by decide)
    have hu2 : lx[ox + j * 6 + 0]? = some (.bool fs[j].used) := hu
    have hp2 : lx[ox + j * 6 + 4]? = some (.int .i64 fs[j].page) := hpg
    have hat : ∀ (L : List HL), At D L bx (.cells lx.toArray ex frx) := fun L => .inr (hsub _ hmem)
    repeat (first | refine gw ?_ | refine gN fun _ => ?_ | refine gB fun _ => ?_ | fail)
    refine aV (OpVal.ixSl tab_ok rfl rfl rfl rfl rfl hlt) ?_
    refine aV (OpVal.load tab_ok rfl (hat _) hu2) ?_
    by_cases h1 : fs[j].used = true
    · repeat (first | refine gh h1 ?_ | refine gN fun _ => ?_ | refine gB fun _ => ?_ | fail)
      refine aV (OpVal.ixSl tab_ok rfl rfl rfl rfl rfl hlt) ?_
      repeat (first | refine gh h1 ?_ | refine gN fun _ => ?_ | refine gB fun _ => ?_ | fail)
      refine aV (OpVal.load tab_ok rfl (hat _) hp2) ?_
      repeat (first | refine gh h1 ?_ | refine gN fun _ => ?_ | refine gB fun _ => ?_ | fail)
      by_cases h2 : fs[j].page = page
      · repeat (first | refine gh h2 ?_ | refine gN fun _ => ?_ | refine gB fun _ => ?_ | fail)
        refine W.ret (fin _ _ (FinOk.mk' ([]) (.tmp rfl .nil) (by repeat (first | exact Sel.nil | (apply Sel.cons; (repeat (first | exact Pick.here | apply Pick.there))))) rfl ?_))
        exact ⟨rfl, .inr ⟨j, hlt, rfl, h1, h2, fun k h => hall k h (by omega)⟩⟩
      · repeat (first | refine gh h2 ?_ | refine gN fun _ => ?_ | refine gB fun _ => ?_ | fail)
        refine aR (o := ⟨fs.length - (j + 1), by omega, j + 1, by omega, (fun k h h3 => by rcases (by omega : k < j ∨ k = j) with h4 | rfl; exact hall k h4 h3; exact fun h5 => h2 h5.2), rfl, rfl, rfl⟩)
    · have h1' : fs[j].used = false := by simpa using h1
      repeat (first | refine gh h1' ?_ | refine gN fun _ => ?_ | refine gB fun _ => ?_ | fail)
      refine aR (o := ⟨fs.length - (j + 1), by omega, j + 1, by omega, (fun k h h3 => by rcases (by omega : k < j ∨ k = j) with h4 | rfl; exact hall k h4 h3; exact fun h5 => h1 h5.1), rfl, rfl, rfl⟩)
  · refine aF ?_ (hb := by simp; omega)
    refine W.ret (fin _ _ (FinOk.mk' ([]) (.tmp rfl .nil) (by repeat (first | exact Sel.nil | (apply Sel.cons; (repeat (first | exact Pick.here | apply Pick.there))))) rfl ?_))
    refine ⟨rfl, .inl ⟨rfl, fun f hf => ?_⟩⟩
    obtain ⟨k, hk, rfl⟩ := List.getElem_of_mem hf
    exact hall k (by omega) hk
theorem RWith_spec (fs : List Fr) (h1 : 1 ≤ fs.length) (hn : fs.length ≤ 64) (hand : Int) (v : Value) (D : HL) (hd : DocIn fs hand v D) (i : Nat) (hi : i < fs.length) (f : Fr) :
    Ctr Try.prog 49 [v, .int .i64 (i : Int), f.dv] [] D (fun v L' => ∃ H, L' = [H] ∧ DocIn (fs.set i f) hand v H) := by
  obtain ⟨a, cap, ro, rfl, hro, hsub⟩ := hd
  have hsl : (fs.set i f).length = fs.length := by simp
  refine Ctr.enter (n := 20) [.cell 6 33] [(0, _), (1, _), (2, _)] Try.func49 rfl rfl rfl (lb rfl) Try.call49 ⟨rfl, rfl, rfl, trivial⟩ ?_
  intro cx fin fin0
  refine aG ?_
  repeat (first | refine gw ?_ | refine gN fun _ => ?_ | refine gB fun _ => ?_ | fail)
  refine W.nilChunk ?_
  refine aPr (appRo tab_ok rfl rfl rfl (Own.nil 6 43) (fun _ h => by cases h) rfl hro (fun p hp => .inr (hsub p hp)) (dflat_one _) (by omega) (by omega)) ?_
  rintro _ _ ⟨a', cap', H', rfl, rfl, ho⟩
  refine aG ?_
  rw [List.nil_append, Nat.zero_add] at ho
  obtain ⟨bo, lo, rfl, rfl, g1, g2, g3⟩ := ho.some (by omega)
  have hlo : lo = dflat fs ++ lo.drop (fs.length * 6) := by rw [← g3, List.take_append_drop]
  generalize lo.drop (fs.length * 6) = rest at hlo
  subst hlo
  have hw : splice? (dflat fs ++ rest) (0 + i * 6) f.dl = some (dflat (fs.set i f) ++ rest) := by
    have hA : (dflat (fs.take i)).length = 0 + i * 6 := by rw [dflat_len, List.length_take]; omega
    have e1 : dflat fs = dflat (fs.take i) ++ fs[i].dl ++ dflat (fs.drop (i + 1)) := by
      have : fs = fs.take i ++ (fs[i] :: fs.drop (i + 1)) := by simp
      conv => lhs; rw [this]
      simp only [dflat, List.flatMap_append, List.flatMap_cons, List.append_assoc]
    have e2 : dflat (fs.set i f) = dflat (fs.take i) ++ f.dl ++ dflat (fs.drop (i + 1)) := by
      rw [List.set_eq_take_append_cons_drop, if_pos hi]
      simp only [dflat, List.flatMap_append, List.flatMap_cons, List.append_assoc]
    rw [e1, e2]
    have := splice_mid (A := dflat (fs.take i)) (M := fs[i].dl) (B := dflat (fs.drop (i + 1)) ++ rest) (o := 0) (vs := f.dl) (M' := f.dl) hA rfl
    simpa using this
  rw [Nat.zero_add]
  refine aG ?_
  repeat (first | refine gw ?_ | refine gN fun _ => ?_ | refine gB fun _ => ?_ | fail)
  refine aV (OpVal.ixSl tab_ok rfl rfl rfl rfl rfl hi) ?_
  refine W.store tab_ok rfl Upd.here rfl rfl rfl rfl rfl hw (W.step tab_ok rfl rfl ?_)
  repeat (first | refine gw ?_ | refine gN fun _ => ?_ | refine gB fun _ => ?_ | fail)
  refine aBu (ps := [_, _]) ?_
  repeat (first | refine gw ?_ | refine gN fun _ => ?_ | refine gB fun _ => ?_ | fail)
  refine W.ret (fin _ _ (FinOk.first 1 (aRc .nil) rfl ?_))
  refine ⟨_, rfl, ?_⟩
  rw [← hsl] at g1 ⊢
  refine DocIn.own (e := 43) ⟨dflat_len _, .inr ⟨bo, _, rfl, rfl, g1, ?_, ?_⟩⟩
  · rw [← g2, List.length_append, List.length_append, dflat_len, dflat_len, hsl]
  · rw [← dflat_len]; exact List.take_left
theorem RFindP_spec (p : Pt) (hi : p.Inv) (hand : Int) (v : Value) (D : HL) (hd : DocIn p.fs hand v D) (page : Int) : Ctr Try.prog 43 [v, .int .i64 page] [] D
    (fun v L' => v = .int .i64 ((mget p.tbl page).getD (-1)) ∧ L' = []) := by
  refine (RFind_spec p.fs hi.ok.2.2 hand v D hd page).post ?_
  rintro u L' ⟨rfl, ⟨rfl, hn⟩ | ⟨i, h, rfl, h1, h2, _⟩⟩
  · refine ⟨?_, rfl⟩
    cases hg : mget p.tbl page with
    | none => rfl
    | some j =>
      obtain ⟨k, hk, _, h1, h2⟩ := hi.tbl page j hg
      exact absurd ⟨h1, h2⟩ (hn _ (List.getElem_mem hk))
  · refine ⟨?_, rfl⟩
    have := hi.inv i h h1
    rw [h2] at this
    rw [this]
    rfl
theorem RLoadP_spec (p : Pt) (hi : p.Inv) (v : Value) (D : HL) (hd : DocIn p.fs p.hand v D) (i page : Int) (bs : List Int) (ab : Option Addr) (cb : Nat) (rb : HL) (hrb : RoSl 1 (u8s bs) ab bs.length rb) :
    Ctr Try.prog 50 [v, .int .i64 i, .int .i64 page, .slice ab bs.length cb] [] (D ++ rb) (fun v' L' => ∃ H v1, L' = [H] ∧ v' = .tuple #[v1, .int .i64 (p.load i page bs).2] ∧ DocIn (p.load i page bs).1.fs p.hand v1 (H ++ D)) := by
  have hF := RFindP_spec p hi p.hand v D hd page
  have hW := fun j hj f => RWith_spec p.fs hi.ok.2.1 hi.ok.2.2 p.hand v D hd j hj f
  have hd' := hd
  obtain ⟨a, cap, ro, rfl, hro, hsub⟩ := hd'
  have hkeep : DocIn p.fs p.hand (.agg #[.slice a p.fs.length cap, .int .i64 p.hand]) ([] ++ D) := hd
  have hsmall := hi.ok.2.2
  refine Ctr.enter (n := 54) [.cell 8 33, .tmp 9] [(0, _), (1, _), (2, _), (3, _)] Try.func50 rfl rfl rfl (lb rfl) Try.call50 ⟨rfl, rfl, rfl, rfl, trivial⟩ ?_
  intro cx fin fin0
  refine aG ?_
  repeat (first | refine gw ?_ | refine gN fun _ => ?_ | refine gB fun _ => ?_ | fail)
  refine aC (o := hF) (h := ?_) (hro := RoIn.all (fun p hp => by simp [hp]))
  rintro _ _ ⟨rfl, rfl⟩
  refine aG ?_
  repeat (first | refine gx ?_ | refine gN fun _ => ?_ | refine gB fun _ => ?_ | fail)
  by_cases c1 : i < 0
  · have hl : p.load i page bs = (p, 1) := by unfold Pt.load Pt.mayLoad; rw [if_neg (by simp; omega)]
    repeat (first | refine gh c1 ?_ | refine gN fun _ => ?_ | refine gB fun _ => ?_ | fail)
    refine W.nilChunk ?_
    refine W.ret (fin _ _ (FinOk.first 1 (aRc (.tmp rfl .nil)) rfl ?_))
    rw [hl]
    exact ⟨[], _, rfl, rfl, hkeep⟩
  by_cases c2 : (p.fs.length : Int) ≤ i
  · have hl : p.load i page bs = (p, 1) := by unfold Pt.load Pt.mayLoad; rw [if_neg (by simp; omega)]
    repeat (first | refine gh (gc2 c1 c2) ?_ | refine gN fun _ => ?_ | refine gB fun _ => ?_ | fail)
    refine W.nilChunk ?_
    refine W.ret (fin _ _ (FinOk.first 1 (aRc (.tmp rfl .nil)) rfl ?_))
    rw [hl]
    exact ⟨[], _, rfl, rfl, hkeep⟩
  obtain ⟨j, rfl⟩ : ∃ j : Nat, i = (j : Int) := ⟨i.toNat, by omega⟩
  have hj : j < p.fs.length := by omega
  have c3 : ¬ ((j : Int) < 0) := c1
  have go : ∀ (k : Int), k = (mget p.tbl page).getD (-1) → p.mayLoad j page = decide (¬ (0 ≤ k ∧ k ≠ (j : Int))) := by
    intro k hk
    unfold Pt.mayLoad
    cases hg : mget p.tbl page with
    | none => rw [hg] at hk; simp at hk; subst hk; simp; omega
    | some own =>
      obtain ⟨q, _, rfl, _, _⟩ := hi.tbl page own hg
      rw [hg] at hk; simp at hk; subst hk
      by_cases e : q = j
      · subst e; simp; omega
      · have : ¬ ((q : Int) = (j : Int)) := by omega
        simp [this]
  generalize hk : (mget p.tbl page).getD (-1) = k
  have hmay := go k hk.symm
  by_cases c4 : 0 ≤ k ∧ k ≠ (j : Int)
  · have hl : p.load j page bs = (p, 1) := by unfold Pt.load; rw [hmay, if_neg (by simp [c4])]
    have c5 := c4.1
    have c6 := c4.2
    repeat (first | refine gh (gc4 c1 c2 c5 c6) ?_ | refine gN fun _ => ?_ | refine gB fun _ => ?_ | fail)
    refine W.nilChunk ?_
    refine W.ret (fin _ _ (FinOk.first 1 (aRc (.tmp rfl .nil)) rfl ?_))
    rw [hl]
    exact ⟨[], _, rfl, rfl, hkeep⟩
  · have hl : p.load j page bs = if bs.length = 32 then (⟨p.fs.set j (Fr.load page bs), mput (p.forget j).tbl page j, p.hand⟩, 0) else (p, 2) := by unfold Pt.load; rw [hmay, if_pos (decide_eq_true c4), Int.toNat_natCast]
    obtain ⟨bx, ox, lx, ex, frx, rfl, hmem, hseg, hld⟩ := doc_at hro hj
    have hat : ∀ (L : List HL), At (D ++ rb) L bx (.cells lx.toArray ex frx) := fun L => .inr (by simp [hsub _ hmem])
    have hR := RLoad_spec p.fs[j] page bs ab cb rb hrb
    by_cases hb : bs.length = 32
    · rw [if_pos hb] at hl hR
      rcases (show ¬ (0 ≤ k) ∨ (0 ≤ k ∧ k = (j : Int)) by omega) with c5 | ⟨c5, rfl⟩
      all_goals
        repeat (first | refine gh (gc3 c1 c2 c5) ?_ | refine gN fun _ => ?_ | refine gB fun _ => ?_ | fail)
        refine aV (OpVal.ixSl tab_ok rfl rfl rfl rfl rfl hj) ?_
        refine aV (OpVal.loadN ty_43.1 ty_43.2 rfl (hat _) hseg) ?_
        refine aC (o := hR) (h := ?_) (hro := RoIn.all (fun p hp => by simp [hp]))
        rintro _ _ ⟨rfl, rfl⟩
        refine aG ?_
        repeat (first | refine gx ?_ | refine gN fun _ => ?_ | refine gB fun _ => ?_ | fail)
        refine aC (o := hW j hj (Fr.load page bs)) (h := ?_) (hro := RoIn.all (fun p hp => by simp [hp]))
        rintro _ _ ⟨H, rfl, a2, c2, r2, rfl, hro2, hsub2⟩
        refine aG ?_
        repeat (first | refine gx ?_ | refine gN fun _ => ?_ | refine gB fun _ => ?_ | fail)
        refine W.ret (fin _ _ (FinOk.first 1 (aRc (.tmp rfl .nil)) rfl ?_))
        rw [hl]
        exact ⟨H, _, rfl, rfl, a2, c2, r2, rfl, hro2, fun q hq => by simp [hsub2 q hq]⟩
    · rw [if_neg hb] at hl hR
      rcases (show ¬ (0 ≤ k) ∨ (0 ≤ k ∧ k = (j : Int)) by omega) with c5 | ⟨c5, rfl⟩
      all_goals
        repeat (first | refine gh (gc3 c1 c2 c5) ?_ | refine gN fun _ => ?_ | refine gB fun _ => ?_ | fail)
        refine aV (OpVal.ixSl tab_ok rfl rfl rfl rfl rfl hj) ?_
        refine aV (OpVal.loadN ty_43.1 ty_43.2 rfl (hat _) hseg) ?_
        refine aC (o := hR) (h := ?_) (hro := RoIn.all (fun p hp => by simp [hp]))
        rintro _ _ ⟨rfl, rfl⟩
        refine aG ?_
        repeat (first | refine gx ?_ | refine gN fun _ => ?_ | refine gB fun _ => ?_ | fail)
        refine W.nilChunk ?_
        refine W.ret (fin _ _ (FinOk.first 1 (aRc (.tmp rfl .nil)) rfl ?_))
        rw [hl]
        exact ⟨[], _, rfl, rfl, hkeep⟩
theorem RReleaseP_spec (p : Pt) (hi : p.Inv) (v : Value) (D : HL) (hd : DocIn p.fs p.hand v D) (i : Int) :
    Ctr Try.prog 47 [v, .int .i64 i] [] D (fun v' L' => ∃ H v1, L' = [H] ∧ v' = .tuple #[v1, .int .i64 (p.release i).2] ∧ DocIn (p.release i).1.fs p.hand v1 (H ++ D)) := by
  have hW := fun j hj f => RWith_spec p.fs hi.ok.2.1 hi.ok.2.2 p.hand v D hd j hj f
  have hd' := hd
  obtain ⟨a, cap, ro, rfl, hro, hsub⟩ := hd'
  have hkeep : DocIn p.fs p.hand (.agg #[.slice a p.fs.length cap, .int .i64 p.hand]) ([] ++ D) := hd
  have hsmall := hi.ok.2.2
  refine Ctr.enter (n := 28) [.cell 4 33, .tmp 5] [(0, _), (1, _)] Try.func47 rfl rfl rfl (lb rfl) Try.call47 ⟨rfl, rfl, trivial⟩ ?_
  intro cx fin fin0
  refine aG ?_
  repeat (first | refine gw ?_ | refine gN fun _ => ?_ | refine gB fun _ => ?_ | fail)
  by_cases c1 : i < 0
  · have hl : p.release i = (p, 1) := by unfold Pt.release inFr; rw [if_pos (by omega)]
    repeat (first | refine gh c1 ?_ | refine gN fun _ => ?_ | refine gB fun _ => ?_ | fail)
    refine W.nilChunk ?_
    refine W.ret (fin _ _ (FinOk.first 1 (aRc (.tmp rfl .nil)) rfl ?_))
    rw [hl]
    exact ⟨[], _, rfl, rfl, hkeep⟩
  by_cases c2 : (p.fs.length : Int) ≤ i
  · have hl : p.release i = (p, 1) := by unfold Pt.release inFr; rw [if_pos (by omega)]
    repeat (first | refine gh (gc2 c1 c2) ?_ | refine gN fun _ => ?_ | refine gB fun _ => ?_ | fail)
    refine W.nilChunk ?_
    refine W.ret (fin _ _ (FinOk.first 1 (aRc (.tmp rfl .nil)) rfl ?_))
    rw [hl]
    exact ⟨[], _, rfl, rfl, hkeep⟩
  obtain ⟨j, rfl⟩ : ∃ j : Nat, i = (j : Int) := ⟨i.toNat, by omega⟩
  have hj : j < p.fs.length := by omega
  have hl : p.release j = if p.fs[j].pins = 0 then (⟨p.fs.set j Fr.zero, (p.forget j).tbl, p.hand⟩, 0) else (p, 5) := by
    unfold Pt.release inFr
    rw [if_neg (by omega), Pt.at_nat hj, Int.toNat_natCast]
  obtain ⟨bx, ox, lx, ex, frx, rfl, hmem, hseg, hld⟩ := doc_at hro hj
  have hat : ∀ (L : List HL), At D L bx (.cells lx.toArray ex frx) := fun L => .inr (hsub _ hmem)
  have hpn : lx[ox + j * 6 + 3]? = some (.int .i64 p.fs[j].pins) := hld 3 (by decide)
  have hp0 := (hi.good _ (List.getElem_mem hj)).2.1
  repeat (first | refine gh (gc2 c1 c2) ?_ | refine gN fun _ => ?_ | refine gB fun _ => ?_ | fail)
  refine aV (OpVal.ixSl tab_ok rfl rfl rfl rfl rfl hj) ?_
  refine aV (OpVal.load tab_ok rfl (hat _) hpn) ?_
  by_cases h0 : p.fs[j].pins = 0
  · rw [if_pos h0] at hl
    have h1 : ¬ (0 < p.fs[j].pins) := by omega
    repeat (first | refine gh h1 ?_ | refine gN fun _ => ?_ | refine gB fun _ => ?_ | fail)
    refine W.drawH tab_ok 3 [.b false, .b false, .b true] [] follows (by decide +kernel) (by decide +kernel) rfl (by decide) rfl ?_
    intro _
    refine dG ?_
    repeat (first | refine dL ?_ | refine dS ?_ | (refine dN ?_; intro _; refine dG ?_) | (refine dB ?_; intro _; refine dG ?_) | fail)
    refine dC (o := REmpty_spec) (h := ?_)
    rintro _ _ ⟨rfl, rfl⟩
    refine dG ?_
    refine WD.nil (W.dropNil (aG ?_))
    refine aC (o := hW j hj Fr.zero) (h := ?_)
    rintro _ _ ⟨H, rfl, a2, c2, r2, rfl, hro2, hsub2⟩
    refine aG ?_
    repeat (first | refine gx ?_ | refine gN fun _ => ?_ | refine gB fun _ => ?_ | fail)
    refine W.ret (fin _ _ (FinOk.first 1 (aRc (.tmp rfl .nil)) rfl ?_))
    rw [hl]
    exact ⟨H, _, rfl, rfl, a2, c2, r2, rfl, hro2, fun q hq => by simp [hsub2 q hq]⟩
  · rw [if_neg h0] at hl
    have h1 : 0 < p.fs[j].pins := by omega
    repeat (first | refine gh h1 ?_ | refine gN fun _ => ?_ | refine gB fun _ => ?_ | fail)
    refine W.nilChunk ?_
    refine W.ret (fin _ _ (FinOk.first 1 (aRc (.tmp rfl .nil)) rfl ?_))
    rw [hl]
    exact ⟨[], _, rfl, rfl, hkeep⟩
theorem RCleanP_spec (p : Pt) (hi : p.Inv) (v : Value) (D : HL) (hd : DocIn p.fs p.hand v D) (i : Int) :
    Ctr Try.prog 48 [v, .int .i64 i] [] D (fun v' L' => ∃ H v1, L' = [H] ∧ v' = .tuple #[v1, .int .i64 (p.clean i).2] ∧ DocIn (p.clean i).1.fs p.hand v1 (H ++ D)) := by
  have hW := fun j hj f => RWith_spec p.fs hi.ok.2.1 hi.ok.2.2 p.hand v D hd j hj f
  have hd' := hd
  obtain ⟨a, cap, ro, rfl, hro, hsub⟩ := hd'
  have hkeep : DocIn p.fs p.hand (.agg #[.slice a p.fs.length cap, .int .i64 p.hand]) ([] ++ D) := hd
  have hsmall := hi.ok.2.2
  refine Ctr.enter (n := 27) [.cell 4 33, .tmp 5] [(0, _), (1, _)] Try.func48 rfl rfl rfl (lb rfl) Try.call48 ⟨rfl, rfl, trivial⟩ ?_
  intro cx fin fin0
  refine aG ?_
  repeat (first | refine gw ?_ | refine gN fun _ => ?_ | refine gB fun _ => ?_ | fail)
  by_cases c1 : i < 0
  · have hl : p.clean i = (p, 1) := by unfold Pt.clean inFr; rw [if_pos (by omega)]
    repeat (first | refine gh c1 ?_ | refine gN fun _ => ?_ | refine gB fun _ => ?_ | fail)
    refine W.nilChunk ?_
    refine W.ret (fin _ _ (FinOk.first 1 (aRc (.tmp rfl .nil)) rfl ?_))
    rw [hl]
    exact ⟨[], _, rfl, rfl, hkeep⟩
  by_cases c2 : (p.fs.length : Int) ≤ i
  · have hl : p.clean i = (p, 1) := by unfold Pt.clean inFr; rw [if_pos (by omega)]
    repeat (first | refine gh (gc2 c1 c2) ?_ | refine gN fun _ => ?_ | refine gB fun _ => ?_ | fail)
    refine W.nilChunk ?_
    refine W.ret (fin _ _ (FinOk.first 1 (aRc (.tmp rfl .nil)) rfl ?_))
    rw [hl]
    exact ⟨[], _, rfl, rfl, hkeep⟩
  obtain ⟨j, rfl⟩ : ∃ j : Nat, i = (j : Int) := ⟨i.toNat, by omega⟩
  have hj : j < p.fs.length := by omega
  have hl : p.clean j = (p.setF j p.fs[j].clean, 0) := by
    unfold Pt.clean inFr
    rw [if_neg (by omega), Pt.at_nat hj, Int.toNat_natCast]
  obtain ⟨bx, ox, lx, ex, frx, rfl, hmem, hseg, hld⟩ := doc_at hro hj
  have hat : ∀ (L : List HL), At D L bx (.cells lx.toArray ex frx) := fun L => .inr (hsub _ hmem)
  repeat (first | refine gh (gc2 c1 c2) ?_ | refine gN fun _ => ?_ | refine gB fun _ => ?_ | fail)
  refine aV (OpVal.ixSl tab_ok rfl rfl rfl rfl rfl hj) ?_
  refine aV (OpVal.loadN ty_43.1 ty_43.2 rfl (hat _) hseg) ?_
  repeat (first | refine gx ?_ | refine gN fun _ => ?_ | refine gB fun _ => ?_ | fail)
  refine aC (o := hW j hj p.fs[j].clean) (h := ?_)
  rintro _ _ ⟨H, rfl, a2, c2, r2, rfl, hro2, hsub2⟩
  refine aG ?_
  repeat (first | refine gx ?_ | refine gN fun _ => ?_ | refine gB fun _ => ?_ | fail)
  refine W.ret (fin _ _ (FinOk.first 1 (aRc (.tmp rfl .nil)) rfl ?_))
  rw [hl]
  exact ⟨H, _, rfl, rfl, a2, c2, r2, rfl, hro2, fun q hq => by simp [hsub2 q hq]⟩
end Go.Proofs.Ytgipjpiiomgjjaa
