/-
  The document's machine: End.
-/
import Derived.Test.YtgipjpiiomgjjaaMh
namespace Go.Proofs.Ytgipjpiiomgjjaa
open Go Go.Sl Go.IntWalk
set_option maxHeartbeats 8000000
set_option maxRecDepth 20000
theorem cleanHand (p : Pt) (i : Int) : (p.clean i).1.hand = p.hand := by unfold Pt.clean; split <;> rfl
theorem loadHand (p : Pt) (i page : Int) (bs : List Int) : (p.load i page bs).1.hand = p.hand := by
  unfold Pt.load
  split
  · split <;> rfl
  · rfl
theorem REnd_err (m : Mc) (p : Pt) (v : Value) (D : HL) (hd : DocM m p v D) (e : Int) (he : e ≠ 0) (bs : List Int) (ab : Option Addr) (cb : Nat) : Ctr Try.prog 30 [v, .int .i64 e, .slice ab bs.length cb] [] D (DocOut (mEnd m p e bs) D) := by
  obtain ⟨a, c, r, at_, ct, rt, ag, cg, rg, rfl, h2, h3, h4, h5, h6, h7, h8⟩ := hd
  have hb : mEnd m p e bs = (Mc.idle, p, ⟨true, 9, false, [], ⟨0, 0, 0, 0, 0, 1⟩⟩) := by unfold mEnd; rw [if_pos he]
  rw [hb]
  refine Ctr.enter (n := 114) [.cell 6 36, .cell 7 77] [(0, _), (1, _), (2, _)] Try.func30 rfl rfl rfl (lb rfl) Try.call30 ⟨rfl, rfl, rfl, trivial⟩ ?_
  intro cx fin fin0
  refine aG ?_
  repeat (first | refine gh he ?_ | refine gN fun _ => ?_ | refine gB fun _ => ?_ | fail)
  refine aBu (ps := [_]) ?_
  refine aBu (ps := [_]) ?_
  refine aBu (ps := [_, _, _]) ?_
  repeat (first | refine gx ?_ | refine gN fun _ => ?_ | refine gB fun _ => ?_ | fail)
  refine W.nilChunk ?_
  refine W.order [0, 0, 0] rfl ?_
  refine W.ret (fin _ _ (FinOk.first 1 (aRc (aRc .nil)) rfl ?_))
  exact ⟨[], _, rfl, rfl, a, c, r, none, 0, [], none, 0, [], rfl, h2, ⟨rfl, .inl ⟨rfl, rfl⟩⟩, ⟨rfl, .inl ⟨rfl, rfl⟩⟩, Nat.le_refl _, h6, (fun _ h => by cases h), (fun _ h => by cases h)⟩
theorem REnd_ok (m : Mc) (hne : m.todo ≠ []) (p : Pt) (hi : p.Inv) (v : Value) (D : HL) (hd : DocM m p v D) (bs : List Int) (ab : Option Addr) (cb : Nat) (rb : HL) (hrb : RoSl 1 (u8s bs) ab bs.length rb) (hlen : m.got.length + bs.length ≤ 100000)
    (hst : m.io.1 = 2 ∧ m.io.2.2 = 1 → ∃ j : Nat, j < p.fs.length ∧ mget p.tbl m.io.2.1 = some (j : Int) ∧ (m.op = 1 → (p.at_ j).pins = 0)) (hsi : (mStep m p bs).2.1.Inv) (hli : ((mStep m p bs).2.1.load m.to m.page (mStep m p bs).1.got).1.Inv) :
    Ctr Try.prog 30 [v, .int .i64 0, .slice ab bs.length cb] [] (D ++ rb) (DocOut (mEnd m p 0 bs) D) := by
  obtain ⟨a, c, r, at_, ct, rt, ag, cg, rg, rfl, h2, h3, h4, h5, h6, h7, h8⟩ := hd
  have hF := RFindP_spec p hi p.hand (.agg #[.slice a p.fs.length c, .int .i64 p.hand]) D ⟨a, c, r, rfl, h2, h6⟩ m.io.2.1
  have hC := fun i => RCleanP_spec p hi (.agg #[.slice a p.fs.length c, .int .i64 p.hand]) D ⟨a, c, r, rfl, h2, h6⟩ i
  have hE := REmpty_spec
  have h64 := hi.ok.2.2
  have hout : mEnd m p 0 bs = mEnd m p 0 bs := rfl
  conv at hout => rhs; unfold mEnd
  rw [if_neg (by simp)] at hout
  generalize mEnd m p 0 bs = out at *
  obtain ⟨mo, mpg, mto, todo, mgot⟩ := m
  simp only [Mc.io] at *
  cases todo with
  | nil => exact absurd rfl hne
  | cons x rest =>
    obtain ⟨xk, xp, xq⟩ := x
    simp only [List.headD_cons] at *
    have hn : 0 < ((xk, xp, xq) :: rest).length := by simp
    have hl1 : 1 ≤ ((xk, xp, xq) :: rest).length := by simp
    obtain ⟨by_, oy, ly, ey, fry, rfl, rfl, hs, -⟩ := RoSl.at (f := io3) (m := 3) (fun _ => rfl) h3 hn
    have hat : ∀ L, At (D ++ rb) L by_ (.cells ly.toArray ey fry) := fun L => .inr (List.mem_append_left _ (h7 _ (by simp)))
    have hro2 : RoSl 3 (ios rest) ((some ⟨by_, oy, none⟩ : Option Addr).map fun ad => if ct = 1 then ad else ad.add (1 * 3)) rest.length [(by_, .cells ly.toArray ey fry)] := by
      rcases RoSl.drop (f := io3) (cap := ct) (fun _ => rfl) h3 1 hl1 with h | h
      · exact h
      · omega
    have hct2 : rest.length ≤ ct - 1 := by simp at h5; omega
    refine Ctr.enter (n := 114) [.cell 6 36, .cell 7 77] [(0, _), (1, _), (2, _)] Try.func30 rfl rfl rfl (lb rfl) Try.call30 ⟨rfl, rfl, rfl, trivial⟩ ?_
    intro cx fin fin0
    refine aG ?_
    repeat (first | refine gx ?_ | refine gN fun _ => ?_ | refine gB fun _ => ?_ | fail)
    refine aV (OpVal.ixSl tab_ok rfl rfl rfl rfl rfl hn) ?_
    refine aV (OpVal.loadN ty_102.1 ty_102.2 rfl (hat _) hs) ?_
    repeat (first | refine gx ?_ | refine gN fun _ => ?_ | refine gB fun _ => ?_ | fail)
    refine aV (OpVal.back tab_ok rfl rfl rfl rfl rfl hl1 h5) ?_
    repeat (first | refine gx ?_ | refine gN fun _ => ?_ | refine gB fun _ => ?_ | fail)
    have hms : mStep ⟨mo, mpg, mto, (xk, xp, xq) :: rest, mgot⟩ p bs = if xk = 2 ∧ xq = 1 then (⟨mo, mpg, mto, rest, mgot⟩, mStored ⟨mo, mpg, mto, rest, mgot⟩ p xp) else if xk = 1 then (⟨mo, mpg, mto, rest, mgot ++ bs⟩, p, C6.none) else (⟨mo, mpg, mto, rest, mgot⟩, p, C6.none) := rfl
    have hgl : mgot.length + bs.length ≤ 100000 := hlen
    generalize mStep ⟨mo, mpg, mto, (xk, xp, xq) :: rest, mgot⟩ p bs = st at *
    rcases Classical.em (xk = 2 ∧ xq = 1) with hA | hA
    case' inl =>
      rw [if_pos hA] at hms
      obtain ⟨j, hj, hg, hpin⟩ := hst hA
      obtain ⟨rfl, rfl⟩ := hA
      rw [hg] at hF
      have hh := cleanHand p j
      have hCj := hC j
      repeat (first | refine gx ?_ | refine gN fun _ => ?_ | refine gB fun _ => ?_ | fail)
      refine aC (o := hF) (h := ?_) (hro := RoIn.all (fun p hp => by simp [hp]))
      rintro _ _ ⟨rfl, rfl⟩
      refine aG ?_
      repeat (first | refine gx ?_ | refine gN fun _ => ?_ | refine gB fun _ => ?_ | fail)
      refine aC (o := hCj) (h := ?_) (hro := RoIn.all (fun p hp => by simp [hp]))
      rintro _ _ ⟨H, v1, rfl, rfl, a2, c2, r2, rfl, hro2', hsub2⟩
      refine aG ?_
      repeat (first | refine gx ?_ | refine gN fun _ => ?_ | refine gB fun _ => ?_ | fail)
      have hci := Pt.clean_inv hi (j : Int)
      by_cases ho : mo = 1
      case' pos =>
        have hjc : j < (p.clean (j : Int)).1.fs.length := by
          unfold Pt.clean
          rw [if_neg (by unfold inFr; omega)]
          simpa [Pt.setF] using hj
        have hpc : ((p.clean (j : Int)).1.at_ (j : Int)).pins = 0 := by
          have h0 := hpin ho
          unfold Pt.clean
          rw [if_neg (by unfold inFr; omega)]
          simp only [Int.toNat_natCast]
          rw [Pt.at_nat (by simpa [Pt.setF] using hj)]
          simp only [Pt.setF, List.getElem_set_self]
          exact h0
        have hrel := release_fs hjc hpc
        have hW := RWith_spec (p.clean (j : Int)).1.fs hci.ok.2.1 hci.ok.2.2 p.hand _ (H ++ D) ⟨_, c2, _, rfl, hro2', hsub2⟩ j hjc Fr.zero
        have hms2 : mStored ⟨mo, mpg, mto, rest, mgot⟩ p xp = (((p.clean (j : Int)).1.release (j : Int)).1, ⟨0, 0, 1, 0, 0, 0⟩) := by unfold mStored; rw [if_pos ho, hg]; rfl
        rw [hms2] at hms
        repeat (first | refine gh ho ?_ | refine gN fun _ => ?_ | refine gB fun _ => ?_ | fail)
        refine W.drawH tab_ok 7 [.b false, .b true, .b false, .b false, .b true, .b false, .b true] [6] follows (by decide +kernel) (by decide +kernel) rfl (by decide) rfl ?_
        intro _
        refine dG ?_
        repeat (first | refine dL ?_ | refine dS ?_ | (refine dN ?_; intro _; refine dG ?_) | (refine dB ?_; intro _; refine dG ?_) | fail)
        refine dLA ?_
        refine dQ (o := hE) (h := ?_)
        refine dC (o := hW) (h := ?_) (hro := RoIn.all (fun q hq => (List.mem_append.1 hq).elim (fun h => by simp [h]) (fun h => by simp [h])))
        rintro _ _ ⟨H2, rfl, a3, c3, r3, rfl, hro3, hsub3⟩
        refine dG ?_
        repeat (first | refine dL ?_ | refine dS ?_ | (refine dN ?_; intro _; refine dG ?_) | (refine dB ?_; intro _; refine dG ?_) | fail)
        refine WD.nil (W.dropNil (aG ?_))
        repeat (first | refine gx ?_ | refine gN fun _ => ?_ | refine gB fun _ => ?_ | fail)
        refine W.nilChunk ?_
        refine W.order [1, 0, 3, 4, 4, 0] rfl ?_
        obtain ⟨p1, hp1⟩ : ∃ p1, p1 = ((p.clean (j : Int)).1.release (j : Int)).1 := ⟨_, rfl⟩
        rw [← hp1] at hms hrel
        obtain ⟨c1, hc1⟩ : ∃ c1, c1 = c3 := ⟨_, rfl⟩
        have hle1 : ((p.clean (j : Int)).1.fs.set j Fr.zero).length = p1.fs.length := by rw [hrel.1]
        have hha1 : p.hand = p1.hand := (hrel.2.trans hh).symm
        rw [← hrel.1] at hro3
        have hro1 : RoSl 6 (dflat p1.fs) a3 p1.fs.length r3 := hro3
        have hsub1 : ∀ q ∈ r3, q ∈ H2 ++ D := fun q hq => List.mem_append_left _ (hsub3 q hq)
        rw [hle1, hha1, ← hc1]
      case' neg =>
        have hms2 : mStored ⟨mo, mpg, mto, rest, mgot⟩ p xp = ((p.clean (j : Int)).1, C6.none) := by unfold mStored; rw [if_neg ho, hg]; rfl
        rw [hms2] at hms
        repeat (first | refine gh ho ?_ | refine gN fun _ => ?_ | refine gB fun _ => ?_ | fail)
        refine W.nilChunk ?_
        refine W.order [2, 0, 1, 2, 2, 2] rfl ?_
        obtain ⟨p1, hp1⟩ : ∃ p1, p1 = (p.clean (j : Int)).1 := ⟨_, rfl⟩
        rw [← hp1] at hms hh hro2'
        obtain ⟨c1, hc1⟩ : ∃ c1, c1 = c2 := ⟨_, rfl⟩
        have hha1 : p.hand = p1.hand := hh.symm
        have hro1 := hro2'
        have hsub1 := hsub2
        rw [← hp1, hha1, ← hc1]
      all_goals
        obtain ⟨g1, hg1⟩ : ∃ g1, g1 = mgot := ⟨_, rfl⟩
        rw [← hg1] at hms h4
        obtain ⟨cg1, hcg1⟩ : ∃ cg1, cg1 = cg := ⟨_, rfl⟩
        have hgo1 := h4
        have hgs1 : ∀ q ∈ rg, q ∈ ([] : HL) ++ D := h8
        rw [← hg1, ← hcg1]
        subst hms
    case' inr =>
      rw [if_neg hA] at hms
      by_cases hB : xk = 1
      case' pos =>
        rw [if_pos hB] at hms
        subst hB
        repeat (first | refine gx ?_ | refine gN fun _ => ?_ | refine gB fun _ => ?_ | fail)
        refine W.nilChunk ?_
        have ho0 : Own 1 5 (u8s []) none ([] : List Int).length 0 [] := Own.nil _ _
        refine aPr (appU8 tab_ok rfl rfl rfl ho0 (by intro p hp; cases hp) rfl h4 (fun q hq => .inr (by simp [h8 q hq])) (by simp; omega) (by simp; omega)) ?_
        rintro _ _ ⟨ag1, cg1, Hg1, rfl, rfl, hown1⟩
        refine aG ?_
        repeat (first | refine gx ?_ | refine gN fun _ => ?_ | refine gB fun _ => ?_ | fail)
        refine aPr (appU8 tab_ok rfl rfl rfl hown1 (by intro p hp; simp [hp]) rfl hrb (fun q hq => .inr (by simp [hq])) (by simp; omega) (by simp; omega)) ?_
        rintro _ _ ⟨ag2, cg2, Hg2, rfl, rfl, hown2⟩
        refine aG ?_
        repeat (first | refine gx ?_ | refine gN fun _ => ?_ | refine gB fun _ => ?_ | fail)
        refine W.nilChunk ?_
        refine W.order [0, 0, 0, 1, 1, 1] rfl ?_
        obtain ⟨g1, hg1⟩ : ∃ g1, g1 = mgot ++ bs := ⟨_, rfl⟩
        rw [← hg1] at hms
        rw [List.nil_append, ← hg1] at hown2
        obtain ⟨cg1, hcg1⟩ : ∃ cg1, cg1 = cg2 := ⟨_, rfl⟩
        have hgo1 := hown2.roSl
        have hgs1 : ∀ q ∈ Hg2, q ∈ Hg2 ++ D := fun q hq => List.mem_append_left _ hq
        rw [List.nil_append, ← hg1, ← hcg1]
      case' neg =>
        rw [if_neg hB] at hms
        by_cases hk2 : xk = 2
        case' pos =>
          subst hk2
          have hq1 : ¬ xq = 1 := fun h => hA ⟨rfl, h⟩
          repeat (first | refine gh hq1 ?_ | refine gN fun _ => ?_ | refine gB fun _ => ?_ | fail)
        case' neg =>
          repeat (first | refine gh (gc2 hk2 hB) ?_ | refine gN fun _ => ?_ | refine gB fun _ => ?_ | fail)
        all_goals
          refine W.nilChunk ?_
          refine W.nilChunk ?_
          refine W.order [0, 0, 0, 1, 1, 1] rfl ?_
          obtain ⟨g1, hg1⟩ : ∃ g1, g1 = mgot := ⟨_, rfl⟩
          rw [← hg1] at hms h4
          obtain ⟨cg1, hcg1⟩ : ∃ cg1, cg1 = cg := ⟨_, rfl⟩
          have hgo1 := h4
          have hgs1 : ∀ q ∈ rg, q ∈ ([] : HL) ++ D := h8
          rw [← hg1, ← hcg1]
      all_goals
        obtain ⟨p1, hp1⟩ : ∃ p1, p1 = p := ⟨_, rfl⟩
        rw [← hp1] at hms h2
        obtain ⟨c1, hc1⟩ : ∃ c1, c1 = c := ⟨_, rfl⟩
        have hro1 := h2
        have hsub1 : ∀ q ∈ r, q ∈ ([] : HL) ++ D := h6
        rw [← hp1, ← hc1]
        subst hms
    all_goals
      cases rest with
      | cons y rest =>
        rw [if_pos (by simp)] at hout
        subst hout
        repeat (first | refine gx ?_ | refine gN fun _ => ?_ | refine gB fun _ => ?_ | fail)
        refine W.drawH tab_ok 4 [.b false, .b false, .b true, .b true] [3,4] follows (by decide +kernel) (by decide +kernel) rfl (by decide) rfl ?_
        intro _
        refine dG ?_
        repeat (first | refine dL ?_ | refine dS ?_ | (refine dN ?_; intro _; refine dG ?_) | (refine dB ?_; intro _; refine dG ?_) | fail)
        refine WD.nil (W.dropNil (aG ?_))
        refine W.groupV [2, 2] rfl ?_
        refine W.ret (fin _ _ (FinOk.first 1 (aRc (aRc .nil)) rfl ?_))
        exact ⟨_, _, rfl, rfl, _, c1, _, _, ct - 1, _, _, cg1, _, rfl, hro1, hro2, hgo1, hct2, fun q hq => (List.mem_append.1 (hsub1 q hq)).elim (fun h => by first | exact absurd h List.not_mem_nil | simp [h]) (fun h => by first | exact absurd h List.not_mem_nil | simp [h]), fun q hq => by simp [h7 q hq], fun q hq => (List.mem_append.1 (hgs1 q hq)).elim (fun h => by first | exact absurd h List.not_mem_nil | simp [h]) (fun h => by first | exact absurd h List.not_mem_nil | simp [h])⟩
      | nil =>
        rw [if_neg (by simp)] at hout
        repeat (first | refine gx ?_ | refine gN fun _ => ?_ | refine gB fun _ => ?_ | fail)
        by_cases hoo : mo = 1
        case' pos =>
          try exact absurd hoo ho
          all_goals
            rw [if_pos hoo] at hout
            subst hout
            have hL := fun v D hd => RLoadP_spec p1 hsi v D hd mto mpg g1 _ cg1 _ hgo1
            have hD := fun v D hd => RDo0_spec (p1.load mto mpg g1).1 hli v D hd mpg
            have hh1 := loadHand p1 mto mpg g1
            have hh2 := doPageHand (p1.load mto mpg g1).1 mpg Fr.pin
            repeat (first | refine gh hoo ?_ | refine gN fun _ => ?_ | refine gB fun _ => ?_ | fail)
            refine aC (o := hL _ _ ⟨_, c1, _, rfl, hro1, hsub1⟩) (h := ?_) (hro := (fun q hq => (List.mem_append.1 hq).elim (fun h => (List.mem_append.1 h).elim (fun h => by first | exact absurd h List.not_mem_nil | simp [h]) (fun h => by first | exact absurd h List.not_mem_nil | simp [h])) (fun h => (List.mem_append.1 (hgs1 q h)).elim (fun h => by first | exact absurd h List.not_mem_nil | simp [h]) (fun h => by first | exact absurd h List.not_mem_nil | simp [h]))))
            rintro _ _ ⟨H5, v5, rfl, rfl, a5, c5, r5, rfl, hro5, hsub5⟩
            refine aG ?_
            rw [← hh1]
            repeat (first | refine gx ?_ | refine gN fun _ => ?_ | refine gB fun _ => ?_ | fail)
            have hD2 := hD _ _ ⟨a5, c5, r5, rfl, by exact hro5, hsub5⟩
            refine aC (o := hD2) (h := ?_) (hro := (fun q hq => (List.mem_append.1 hq).elim (fun h => by simp [h]) (fun h => (List.mem_append.1 h).elim (fun h => by first | exact absurd h List.not_mem_nil | simp [h]) (fun h => by simp [h]))))
            rintro _ _ ⟨H6, v6, rfl, rfl, a6, c6, r6, rfl, hro6, hsub6⟩
            refine aG ?_
            rw [← hh2]
            repeat (first | refine gx ?_ | refine gN fun _ => ?_ | refine gB fun _ => ?_ | fail)
            refine W.drawH tab_ok 5 [.b false, .b false, .b false, .b true, .b true] [8,9] follows (by decide +kernel) (by decide +kernel) rfl (by decide) rfl ?_
            intro _
            refine dG ?_
            repeat (first | refine dL ?_ | refine dS ?_ | (refine dN ?_; intro _; refine dG ?_) | (refine dB ?_; intro _; refine dG ?_) | fail)
            refine dV (OpVal.build (ps := [_]) tab_ok rfl rfl rfl rfl (by repeat (first | exact trivial | refine ⟨⟨_, _, _, rfl, rfl, rfl⟩, ?_⟩)) rfl) ?_
            repeat (first | refine dL ?_ | refine dS ?_ | (refine dN ?_; intro _; refine dG ?_) | (refine dB ?_; intro _; refine dG ?_) | fail)
            refine WD.nil (W.dropNil (aG ?_))
            refine W.groupV [3, 4, 5] rfl ?_
            refine W.ret (fin _ _ (FinOk.first 1 (aRc (aRc .nil)) rfl ?_))
            exact ⟨_, _, rfl, rfl, a6, c6, r6, none, 0, [], none, 0, [], rfl, hro6, ⟨rfl, .inl ⟨rfl, rfl⟩⟩, ⟨rfl, .inl ⟨rfl, rfl⟩⟩, Nat.le_refl _, fun q hq => by simpa [List.append_assoc] using hsub6 q hq, (fun _ h => by cases h), (fun _ h => by cases h)⟩
        case' neg =>
          try exact absurd ho hoo
          all_goals
            rw [if_neg hoo] at hout
            subst hout
            repeat (first | refine gh hoo ?_ | refine gN fun _ => ?_ | refine gB fun _ => ?_ | fail)
            refine W.drawH tab_ok 5 [.b false, .b false, .b false, .b true, .b true] [4,5] follows (by decide +kernel) (by decide +kernel) rfl (by decide) rfl ?_
            intro _
            refine dG ?_
            repeat (first | refine dL ?_ | refine dS ?_ | (refine dN ?_; intro _; refine dG ?_) | (refine dB ?_; intro _; refine dG ?_) | fail)
            refine dV (OpVal.build (ps := [_]) tab_ok rfl rfl rfl rfl (by repeat (first | exact trivial | refine ⟨⟨_, _, _, rfl, rfl, rfl⟩, ?_⟩)) rfl) ?_
            repeat (first | refine dL ?_ | refine dS ?_ | (refine dN ?_; intro _; refine dG ?_) | (refine dB ?_; intro _; refine dG ?_) | fail)
            refine WD.nil (W.dropNil (aG ?_))
            refine W.order [3, 0, 0] rfl ?_
            refine W.ret (fin _ _ (FinOk.first 1 (aRc (aRc .nil)) rfl ?_))
            exact ⟨_, _, rfl, rfl, _, c1, _, none, 0, [], none, 0, [], rfl, hro1, ⟨rfl, .inl ⟨rfl, rfl⟩⟩, ⟨rfl, .inl ⟨rfl, rfl⟩⟩, Nat.le_refl _, hsub1, (fun _ h => by cases h), (fun _ h => by cases h)⟩
end Go.Proofs.Ytgipjpiiomgjjaa
