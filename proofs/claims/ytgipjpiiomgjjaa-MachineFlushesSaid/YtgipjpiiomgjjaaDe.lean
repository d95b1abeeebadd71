/-
  The document's Victim: it answers as the program's.
-/
import Derived.Test.YtgipjpiiomgjjaaDd
-- short
namespace Go.Proofs.Ytgipjpiiomgjjaa
open Go Go.Sl Go.IntWalk
set_option maxHeartbeats 4000000
set_option maxRecDepth 20000
theorem getD_set_ne {fs : List Fl} {i c : Nat} {g : Fl} (h : i ≠ c) : (fs.set i g).getD c Fl.none = fs.getD c Fl.none := by
  rw [List.getD_eq_getElem?_getD, List.getD_eq_getElem?_getD, List.getElem?_set_ne h]
theorem getD_set_eq {fs : List Fl} {c : Nat} {g : Fl} (h : c < fs.length) : (fs.set c g).getD c Fl.none = g := by
  rw [List.getD_eq_getElem?_getD, List.getElem?_set_self h, Option.getD_some]
theorem turn_hit {hand : Nat} : ∀ {m k : Nat} {fs : List Fl} {c : Nat}, (turnFrom hand m k fs).2 = none → c < fs.length → (fs.getD c Fl.none).goes.2 = true → ∀ k', k ≤ k' → k' < k + m → (hand + k') % fs.length ≠ c
  | 0, k, fs, c, _, _, _, k', h1, h2 => by omega
  | m + 1, k, fs, c, h, hc, hg, k', h1, h2 => by
    unfold turnFrom at h
    split at h
    · cases h
    · rename_i hne
      have hic : (hand + k) % fs.length ≠ c := by rintro rfl; exact hne hg
      by_cases hk : k' = k
      · subst hk; exact hic
      · have := turn_hit (c := c) h (by simpa using hc) (by rw [getD_set_ne hic]; exact hg) k' (by omega) (by omega)
        simpa using this
theorem turn_two {hand : Nat} : ∀ {m k : Nat} {fs : List Fl} {c : Nat}, (turnFrom hand m k fs).2 = none → c < fs.length → ((fs.getD c Fl.none).used = false ∨ (fs.getD c Fl.none).pins = 0) →
    ∀ k' k'', k ≤ k' → k' < k'' → k'' < k + m → (hand + k') % fs.length = c → (hand + k'') % fs.length = c → False
  | 0, k, fs, c, _, _, _, k', k'', h1, h2, h3, _, _ => by omega
  | m + 1, k, fs, c, h, hc, hg, k', k'', h1, h2, h3, e1, e2 => by
    unfold turnFrom at h
    split at h
    · cases h
    · rename_i hne
      by_cases hic : (hand + k) % fs.length = c
      · rw [hic] at h hne
        have hu : (fs.getD c Fl.none).used = true := by
          cases hx : (fs.getD c Fl.none).used with
          | true => rfl
          | false => exact absurd (by unfold Fl.goes; rw [if_pos hx]) hne
        have hp : (fs.getD c Fl.none).pins = 0 := hg.resolve_left (by rw [hu]; decide)
        have hgo : (fs.getD c Fl.none).goes.1.goes.2 = true := by
          have e : (fs.getD c Fl.none).goes.1 = ⟨(fs.getD c Fl.none).used, (fs.getD c Fl.none).dirty, false, (fs.getD c Fl.none).pins⟩ := by
            unfold Fl.goes; rw [if_neg (by rw [hu]; decide), if_pos hp]
          rw [e]
          unfold Fl.goes
          rw [if_neg (by rw [hu]; decide), if_pos hp]
          rfl
        have := turn_hit (c := c) h (by simpa using hc) (by rw [getD_set_eq hc]; exact hgo) k'' (by omega) (by omega)
        exact this (by simpa using e2)
      · have hk : k' ≠ k := by rintro rfl; exact hic e1
        exact turn_two (c := c) h (by simpa using hc) (by rw [getD_set_ne hic]; exact hg) k' k'' (by omega) h2 (by omega) (by simpa using e1) (by simpa using e2)
theorem turn_stays {hand : Nat} : ∀ {m k : Nat} {fs : List Fl}, 0 < fs.length → (∀ c, c < fs.length → (fs.getD c Fl.none).goes = (fs.getD c Fl.none, false)) → (turnFrom hand m k fs).1 = fs
  | 0, _, _, _, _ => rfl
  | m + 1, k, fs, h0, h => by
    have hi := Nat.mod_lt (hand + k) h0
    unfold turnFrom
    rw [h _ hi, if_neg (by simp)]
    have e : fs.set ((hand + k) % fs.length) (fs.getD ((hand + k) % fs.length) Fl.none) = fs := by
      rw [getD_eq hi]; simp
    dsimp only
    rw [e]
    exact turn_stays h0 h
theorem turn_none {hand : Nat} {fs : List Fl} (hh : hand < fs.length) (h : (turnFrom hand (2 * fs.length) 0 fs).2 = none) : (turnFrom hand (2 * fs.length) 0 fs).1 = fs := by
  refine turn_stays (by omega) fun c hc => ?_
  by_cases hg : (fs.getD c Fl.none).used = false ∨ (fs.getD c Fl.none).pins = 0
  · exfalso
    by_cases hch : hand ≤ c
    · refine turn_two (c := c) h hc hg (c - hand) (c - hand + fs.length) (by omega) (by omega) (by omega) ?_ ?_
      · rw [show hand + (c - hand) = c from by omega, Nat.mod_eq_of_lt hc]
      · rw [show hand + (c - hand + fs.length) = c + fs.length from by omega, Nat.add_mod_right, Nat.mod_eq_of_lt hc]
    · refine turn_two (c := c) h hc hg (c + fs.length - hand) (c + fs.length - hand + fs.length) (by omega) (by omega) (by omega) ?_ ?_
      · rw [show hand + (c + fs.length - hand) = c + fs.length from by omega, Nat.add_mod_right, Nat.mod_eq_of_lt hc]
      · rw [show hand + (c + fs.length - hand + fs.length) = c + fs.length + fs.length from by omega, Nat.add_mod_right, Nat.add_mod_right, Nat.mod_eq_of_lt hc]
  · simp only [not_or, Bool.not_eq_false] at hg
    unfold Fl.goes
    rw [if_neg (by rw [hg.1]; decide), if_neg hg.2]
theorem setAll_self : ∀ fs : List Fr, setAll fs (fs.map Fr.fl) = fs
  | [] => rfl
  | f :: fs => by simp only [List.map_cons, setAll, setAll_self fs]; rfl
theorem victim_none {p : Pt} (hi : p.Inv) (h : p.victim.2 = none) : p.victim.1.fs = p.fs ∧ p.victim.1.hand = p.hand := by
  have hl : (p.fs.map Fr.fl).length = p.fs.length := by simp
  have h2 : (turnFrom p.hand.toNat (2 * p.fs.length) 0 (p.fs.map Fr.fl)).2 = none := by
    unfold Pt.victim at h
    simpa using h
  have := turn_none (hand := p.hand.toNat) (fs := p.fs.map Fr.fl) (by rw [hl]; have := hi.hand; omega) (by rw [hl]; exact h2)
  rw [hl] at this
  unfold Pt.victim
  simp only [this, h2, setAll_self, and_self]
theorem Fr.setFl_ref {f : Fr} {g : Fl} (h : Fl.Keeps g f.fl) : f.setFl g = ⟨f.used, f.dirty, g.ref, f.pins, f.page, f.b⟩ := by
  obtain ⟨h1, h2, h3, _⟩ := h
  obtain ⟨g1, g2, g3, g4⟩ := g
  simp only [Fr.fl] at h1 h2 h3
  subst h1 h2 h3
  rfl
theorem setAll_at : ∀ (fs : List Fr) (gs : List Fl) (j : Nat) (h : j < fs.length) (h2 : j < (setAll fs (gs.take j)).length), (setAll fs (gs.take j))[j] = fs[j]
  | f :: fs, [], j, h, h2 => by simp [setAll]
  | f :: fs, g :: gs, 0, h, h2 => by simp [setAll]
  | f :: fs, g :: gs, j + 1, h, h2 => by
    simp only [List.take_succ_cons, setAll, List.getElem_cons_succ]
    exact setAll_at fs gs j (by simpa using h) (by simpa [setAll] using h2)
  | [], _, _, h, _ => by simp at h
theorem RVictim_spec (p : Pt) (hi : p.Inv) (v : Value) (D : HL) (hd : DocIn p.fs p.hand v D) :
    Ctr Try.prog 72 [v] [] D (fun v' L' => ∃ H v1, L' = [H] ∧ v' = .tuple #[v1, .int .i64 (match p.victim.2 with | some i => (i : Int) | none => -1)] ∧ DocIn p.victim.1.fs p.victim.1.hand v1 (H ++ D)) := by
  have hFl := RFlags_spec p hi v D hd
  obtain ⟨h, hh⟩ : ∃ h : Nat, p.hand = (h : Int) := ⟨p.hand.toNat, by have := hi.hand; omega⟩
  have hhl : h < p.fs.length := by have := hi.hand; omega
  have hml : (p.fs.map Fr.fl).length = p.fs.length := by simp
  have h1p := hi.ok.2.1
  have hsmall := hi.ok.2.2
  have hT := fun a cap ro hro => RTurn_spec (p.fs.map Fr.fl) (by omega) (by omega) h (by omega) a cap ro hro
  rw [hml] at hT
  have hnone := victim_none hi
  have hk := fun j (hj : j < p.fs.length) (h2 : j < (turnFrom h (2 * p.fs.length) 0 (p.fs.map Fr.fl)).1.length) => turn_keeps h (2 * p.fs.length) 0 (p.fs.map Fr.fl) j (by omega) h2
  have hlen2 : (turnFrom h (2 * p.fs.length) 0 (p.fs.map Fr.fl)).1.length = p.fs.length := by rw [turnFrom_len, hml]
  have hv : p.victim = (⟨setAll p.fs (turnFrom h (2 * p.fs.length) 0 (p.fs.map Fr.fl)).1, p.tbl, match (turnFrom h (2 * p.fs.length) 0 (p.fs.map Fr.fl)).2 with | some (i, _) => (((i + 1) % p.fs.length : Nat) : Int) | Option.none => p.hand⟩, (turnFrom h (2 * p.fs.length) 0 (p.fs.map Fr.fl)).2.map (·.1)) := by
    unfold Pt.victim
    rw [hh, Int.toNat_natCast]
    rfl
  have hpos := @turnFrom_pos h (2 * p.fs.length) 0 (p.fs.map Fr.fl)
  rw [hh] at hd
  generalize turnFrom h (2 * p.fs.length) 0 (p.fs.map Fr.fl) = r at *
  obtain ⟨gs, r2⟩ := r
  have hlen3 : gs.length = p.fs.length := hlen2
  have hd' := hd
  obtain ⟨a, cap, ro, rfl, hro, hsub⟩ := hd'
  have hkeep : DocIn p.fs (h : Int) (.agg #[.slice a p.fs.length cap, .int .i64 (h : Int)]) ([] ++ D) := hd
  cases r2 with
  | none =>
    have hvn : p.victim.2 = none := by rw [hv]; rfl
    have hn := hnone hvn
    rw [hh] at hn
    refine Ctr.enter (n := 45) [.cell 2 33, .tmp 3] [(0, _)] Try.func72 rfl rfl rfl (lb rfl) Try.call72 ⟨rfl, trivial⟩ ?_
    intro cx fin fin0
    refine aG ?_
    repeat (first | refine gw ?_ | refine gN fun _ => ?_ | refine gB fun _ => ?_ | fail)
    refine W.drawH tab_ok 6 [.b false, .b true, .b false, .b false, .b true, .f] [] follows (by decide +kernel) (by decide +kernel) rfl (by decide) rfl ?_
    intro _
    refine dG ?_
    repeat (first | refine dL ?_ | refine dS ?_ | (refine dN ?_; intro _; refine dG ?_) | (refine dB ?_; intro _; refine dG ?_) | fail)
    refine dC (o := hFl) (h := ?_)
    rintro _ _ ⟨a1, c1, H1, rfl, rfl, ho1⟩
    refine dG ?_
    have hr1 := Own.roSl ho1
    repeat (first | refine dL ?_ | refine dS ?_ | (refine dN ?_; intro _; refine dG ?_) | (refine dB ?_; intro _; refine dG ?_) | fail)
    refine dC (o := hT _ _ _ hr1) (h := ?_)
    rintro _ _ ⟨a2, c2, H2, rfl, ho2, rfl⟩
    refine dG ?_
    refine WD.float tab_ok rfl rfl (lb rfl) (dG ?_)
    refine WD.nil ?_
    intro _ _ _ e; cases e
    refine aG ?_
    repeat (first | refine gx ?_ | refine gN fun _ => ?_ | refine gB fun _ => ?_ | fail)
    refine W.nilChunk ?_
    refine W.ret (fin _ _ (FinOk.first 1 (aRc (.tmp rfl .nil)) rfl ?_))
    rw [hvn, hn.1, hn.2]
    exact ⟨[], _, rfl, rfl, hkeep⟩
  | some iq =>
    obtain ⟨i, q⟩ := iq
    have hq : 0 < q := hpos rfl
    have hvs : p.victim.2 = some i := by rw [hv]; rfl
    have hvf : p.victim.1.fs = setAll p.fs gs := by rw [hv]
    have hvh : p.victim.1.hand = (((i + 1) % p.fs.length : Nat) : Int) := by rw [hv]
    refine Ctr.enter (n := 45) [.cell 2 33, .tmp 3] [(0, _)] Try.func72 rfl rfl rfl (lb rfl) Try.call72 ⟨rfl, trivial⟩ ?_
    intro cx fin fin0
    refine aG ?_
    repeat (first | refine gw ?_ | refine gN fun _ => ?_ | refine gB fun _ => ?_ | fail)
    rename_i b1 b2
    refine W.drawH tab_ok 6 [.b false, .b true, .b false, .b false, .b true, .f] [] follows (by decide +kernel) (by decide +kernel) rfl (by decide) rfl ?_
    intro _
    refine dG ?_
    repeat (first | refine dL ?_ | refine dS ?_ | (refine dN ?_; intro _; refine dG ?_) | (refine dB ?_; intro _; refine dG ?_) | fail)
    refine dC (o := hFl) (h := ?_)
    rintro _ _ ⟨a1, c1, H1, rfl, rfl, ho1⟩
    refine dG ?_
    have hr1 := Own.roSl ho1
    repeat (first | refine dL ?_ | refine dS ?_ | (refine dN ?_; intro _; refine dG ?_) | (refine dB ?_; intro _; refine dG ?_) | fail)
    refine dC (o := hT _ _ _ hr1) (h := ?_)
    rintro _ _ ⟨a2, c2, H2, rfl, ho2, rfl⟩
    refine dG ?_
    refine WD.float tab_ok rfl rfl (lb rfl) (dG ?_)
    refine WD.nil ?_
    intro _ _ _ e; cases e
    refine aG ?_
    rename_i b4
    obtain ⟨bo, lo, rfl, rfl, g1, g2, g3⟩ := ho2.some (by omega)
    have hq0 : ¬ ((q : Int) = 0) := by omega
    repeat (first | refine gx ?_ | refine gN fun _ => ?_ | refine gB fun _ => ?_ | fail)
    refine W.nilChunk ?_
    have hr0 : RoSl 6 (dflat (setAll p.fs (gs.take 0))) a p.fs.length ro := by rw [List.take_zero, setAll0]; exact hro
    refine aLp (fun q' ρ1 L1 => ∃ (j : Nat) (aj : Option Addr) (cj : Nat) (rj Hj : HL), j ≤ p.fs.length ∧ RoSl 6 (dflat (setAll p.fs (gs.take j))) aj p.fs.length rj ∧ (∀ x ∈ rj, x ∈ Hj ++ D) ∧ q' = p.fs.length - j ∧ ρ1 = [(5, .int .i64 (j : Int)), (1, .pointer (some ⟨b1, 0, none⟩)), (2, .pointer (some ⟨b2, 0, none⟩)), (4, .pointer (some ⟨b4, 0, none⟩)), (3, .int .i64 0)] ∧ L1 = [Hj, [(b1, .cells #[.slice aj p.fs.length cj, .int .i64 (h : Int)] 33 (0, 0))], [(b4, .cells #[.int .i64 (i : Int), .int .i64 (((i + 1) % p.fs.length : Nat) : Int), .slice (some ⟨bo, 0, none⟩) p.fs.length c2, .int .i64 (q : Int)] 146 (0, 0))], [(bo, .cells lo.toArray 149 (0, 0))], [(b2, .cells #[.slice none 0 0, .int .i64 0] 33 (0, 0))]]) (o := ⟨0, a, cap, ro, [], Nat.zero_le _, hr0, fun x hx => by simp [hsub x hx], rfl, rfl, rfl⟩) (h := ?_)
    rintro q' ρ1 L1 ⟨j, aj, cj, rj, Hj, hj, hrj, hsj, rfl, rfl, rfl⟩
    refine aG ?_
    repeat (first | refine gw ?_ | refine gN fun _ => ?_ | refine gB fun _ => ?_ | fail)
    by_cases hlt : j < p.fs.length
    · refine aT ?_ (hb := by simp; omega)
      have hsl := setAll_len p.fs (gs.take j)
      have hjs : j < (setAll p.fs (gs.take j)).length := by omega
      have hjg : j < gs.length := by omega
      have hat0 := setAll_at p.fs gs j hlt hjs
      have hnx := setAll_next p.fs gs j hlt hjg
      have hkj := hk j hlt hjg
      have hkj' : Fl.Keeps gs[j] p.fs[j].fl := by simpa using hkj
      have href := Fr.setFl_ref hkj'
      have hdj : DocIn (setAll p.fs (gs.take j)) (h : Int) (.agg #[.slice aj p.fs.length cj, .int .i64 (h : Int)]) (Hj ++ D) := ⟨aj, cj, rj, by rw [hsl], by rw [hsl]; exact hrj, hsj⟩
      have hW := RWith_spec (setAll p.fs (gs.take j)) (by omega) (by omega) h _ _ hdj j hjs (⟨p.fs[j].used, p.fs[j].dirty, gs[j].ref, p.fs[j].pins, p.fs[j].page, p.fs[j].b⟩)
      rw [← hsl] at hrj
      obtain ⟨bx, ox, lx, ex, frx, rfl, hmem, hseg, hld⟩ := doc_at hrj hjs
      rw [hat0] at hseg hnx
      rw [href] at hnx
      have hget : seg? lo (0 + j * 4) 4 = some gs[j].l := own_flag g2 g3 (by omega) hlen3 hjg
      have hgr : lo[0 + j * 4 + 2]? = some (.bool gs[j].ref) := seg?_get hget (by decide)
      have hat : ∀ (L : List HL), (∀ x ∈ Hj, x ∈ L.flatten) → At D L bx (.cells lx.toArray ex frx) := fun L hL => by
        rcases List.mem_append.1 (hsj _ hmem) with hm | hm
        · exact .inl (hL _ hm)
        · exact .inr hm
      rw [hnx] at hW
      generalize gs[j] = g at hgr hW
      generalize p.fs[j] = f at hseg hW
      repeat (first | refine gw ?_ | refine gN fun _ => ?_ | refine gB fun _ => ?_ | fail)
      refine aV (OpVal.ixSl tab_ok rfl rfl rfl rfl rfl hlt) ?_
      refine aV (OpVal.loadN ty_43.1 ty_43.2 rfl (hat _ (fun x hx => by simp [hx])) hseg) ?_
      repeat (first | refine gw ?_ | refine gN fun _ => ?_ | refine gB fun _ => ?_ | fail)
      refine aV (OpVal.ixSl tab_ok rfl rfl rfl rfl rfl hlt) ?_
      refine aV (OpVal.load tab_ok rfl (at_own 4 rfl) hgr) ?_
      repeat (first | refine gw ?_ | refine gN fun _ => ?_ | refine gB fun _ => ?_ | fail)
      refine aC (o := hW) (h := ?_) (hro := by exact RoIn.append (RoIn.own 1 rfl) (RoIn.all fun q hq => hq))
      rintro _ _ ⟨H, rfl, a3, c3, r3, rfl, hro3, hsub3⟩
      refine aG ?_
      repeat (first | refine gx ?_ | refine gN fun _ => ?_ | refine gB fun _ => ?_ | fail)
      refine W.order [0, 2, 2, 2, 2] rfl ?_
      have hsl2 := setAll_len p.fs (gs.take (j + 1))
      rw [hsl2] at hro3 ⊢
      refine aR (o := ⟨p.fs.length - (j + 1), by omega, j + 1, a3, c3, r3, H, by omega, hro3, (fun x hx => by simp [hsub3 x hx]), rfl, rfl, rfl⟩)
    · refine aF ?_ (hb := by simp; omega)
      have hjn : j = p.fs.length := by omega
      subst hjn
      rw [List.take_of_length_le (by rw [hlen3]; exact Nat.le_refl _)] at hrj
      have hsl := setAll_len p.fs gs
      repeat (first | refine gw ?_ | refine gN fun _ => ?_ | refine gB fun _ => ?_ | fail)
      refine W.order [1, 1, 1, 1, 0] rfl ?_
      refine W.drawH tab_ok 4 [.b false, .b false, .b false, .b true] [3] follows (by decide +kernel) (by decide +kernel) rfl (by decide) rfl ?_
      intro _
      refine dG ?_
      repeat (first | refine dL ?_ | refine dS ?_ | (refine dN ?_; intro _; refine dG ?_) | (refine dB ?_; intro _; refine dG ?_) | fail)
      refine WD.nil (W.dropNil (aG ?_))
      refine W.groupV [4] rfl ?_
      refine aG ?_
      refine W.ret (fin _ _ (FinOk.first 1 (aRc (.tmp rfl .nil)) rfl ?_))
      rw [hvs, hvf, hvh]
      exact ⟨Hj, _, rfl, rfl, aj, cj, rj, by rw [hsl], by rw [hsl]; exact hrj, hsj⟩
end Go.Proofs.Ytgipjpiiomgjjaa
