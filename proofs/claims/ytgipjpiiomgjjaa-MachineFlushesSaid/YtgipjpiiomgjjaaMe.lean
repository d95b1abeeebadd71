/-
  The document's machine: its fetch.
-/
import Derived.Test.YtgipjpiiomgjjaaMd
namespace Go.Proofs.Ytgipjpiiomgjjaa
open Go Go.Sl Go.IntWalk
set_option maxHeartbeats 8000000
set_option maxRecDepth 20000
theorem turn_some {hand : Nat} : ∀ {m k : Nat} {fs : List Fl} {i q : Nat}, (turnFrom hand m k fs).2 = some (i, q) → 0 < fs.length → i < fs.length ∧ (((turnFrom hand m k fs).1.getD i Fl.none).used = false ∨ ((turnFrom hand m k fs).1.getD i Fl.none).pins = 0)
  | 0, k, fs, i, q, h, _ => by cases h
  | m + 1, k, fs, i, q, h, h0 => by
    have hc := Nat.mod_lt (hand + k) h0
    unfold turnFrom at h ⊢
    split at h
    · rename_i hg
      simp only [Option.some.injEq, Prod.mk.injEq] at h
      obtain ⟨rfl, -⟩ := h
      rw [if_pos hg]
      refine ⟨hc, ?_⟩
      simp only
      rw [getD_set_eq hc]
      generalize fs.getD ((hand + k) % fs.length) Fl.none = f at hg
      unfold Fl.goes at hg ⊢
      split
      · rename_i hu; exact .inl hu
      · rename_i hu
        rw [if_neg hu] at hg
        split
        · rename_i hp; exact .inr hp
        · rename_i hp; rw [if_neg hp] at hg; cases hg
    · rename_i hg
      rw [if_neg hg]
      have := turn_some h (by simpa using h0)
      simpa using this
theorem victim_some {p : Pt} (hi : p.Inv) {i : Nat} (h : p.victim.2 = some i) : i < p.victim.1.fs.length ∧ (p.victim.1.at_ (i : Int)).pins = 0 := by
  have hl : p.victim.1.fs.length = p.fs.length := setAll_len _ _
  have h1 := hi.ok.2.1
  have hv := Pt.victim_inv hi
  unfold Pt.victim at h
  simp only [Option.map_eq_some_iff, Prod.exists, exists_and_right, exists_eq_right] at h
  obtain ⟨q, hq⟩ := h
  have := turn_some hq (by simp; omega)
  obtain ⟨h2, h3⟩ := this
  have h4 : i < p.fs.length := by simpa using h2
  refine ⟨by omega, ?_⟩
  rw [Pt.at_nat (by omega)]
  have h5 : (turnFrom p.hand.toNat (2 * p.fs.length) 0 (p.fs.map Fr.fl)).1.length = p.fs.length := by rw [turnFrom_len]; simp
  have h6 : p.victim.1.fs[i]'(by omega) = p.fs[i].setFl ((turnFrom p.hand.toNat (2 * p.fs.length) 0 (p.fs.map Fr.fl)).1[i]'(by omega)) := setAll_get _ _ i (by rw [setAll_len]; exact h4) h4 (by omega)
  have h7 : (turnFrom p.hand.toNat (2 * p.fs.length) 0 (p.fs.map Fr.fl)).1.getD i Fl.none = (turnFrom p.hand.toNat (2 * p.fs.length) 0 (p.fs.map Fr.fl)).1[i]'(by omega) := getD_eq (by omega)
  rw [h7] at h3
  rcases h3 with h3 | h3
  · have h8 := hv.emp (p.victim.1.fs[i]'(by omega)) (List.getElem_mem _) (by rw [h6]; exact h3)
    rw [h8]
    rfl
  · rw [h6]
    exact h3
/-- The document's machine. -/
def DocM (m : Mc) (p : Pt) (v : Value) (D : HL) : Prop := ∃ a c r at_ ct rt ag cg rg, v = .agg (List.toArray [.slice a p.fs.length c, .int .i64 p.hand, .int .i64 m.op, .int .i64 m.page, .slice at_ m.todo.length ct, .int .i64 m.to, .slice ag m.got.length cg]) ∧
  RoSl 6 (dflat p.fs) a p.fs.length r ∧ RoSl 3 (ios m.todo) at_ m.todo.length rt ∧ RoSl 1 (u8s m.got) ag m.got.length rg ∧ m.todo.length ≤ ct ∧ (∀ q ∈ r, q ∈ D) ∧ (∀ q ∈ rt, q ∈ D) ∧ (∀ q ∈ rg, q ∈ D)
theorem DocM.mono {m : Mc} {p : Pt} {v : Value} {D D' : HL} (h : DocM m p v D) (hs : ∀ q ∈ D, q ∈ D') : DocM m p v D' := by
  obtain ⟨a, c, r, at_, ct, rt, ag, cg, rg, h1, h2, h3, h4, h5, h6, h7, h8⟩ := h
  exact ⟨a, c, r, at_, ct, rt, ag, cg, rg, h1, h2, h3, h4, h5, fun q hq => hs q (h6 q hq), fun q hq => hs q (h7 q hq), fun q hq => hs q (h8 q hq)⟩
/-- What comes of a call, as the document has it. -/
def Re.d (r : Re) : Value := .agg #[.bool r.done, .int .i64 r.errno, .bool r.hit, .string (bstr r.data), .int .u64 r.add.h, .int .u64 r.add.m, .int .u64 r.add.e, .int .u64 r.add.r, .int .u64 r.add.w, .int .u64 r.add.f]
def DocOut (o : Mc × Pt × Re) (D : HL) (v : Value) (L' : List HL) : Prop := ∃ H v1, L' = [H] ∧ v = .tuple #[v1, o.2.2.d] ∧ DocM o.1 o.2.1 v1 (H ++ D)
theorem release_fs {p : Pt} {i : Nat} (hi : i < p.fs.length) (h0 : (p.at_ (i : Int)).pins = 0) : (p.release (i : Int)).1.fs = p.fs.set i Fr.zero ∧ (p.release (i : Int)).1.hand = p.hand := by
  unfold Pt.release
  rw [if_neg (by unfold inFr; omega), if_pos h0, Int.toNat_natCast]
  exact ⟨rfl, rfl⟩
theorem RMiss_spec (m : Mc) (p : Pt) (hi : p.Inv) (v : Value) (D : HL) (hd : DocM m p v D) : Ctr Try.prog 44 [v, .int .i64 m.page] [] D (DocOut (mMiss m p) D) := by
  obtain ⟨a, c, r, at_, ct, rt, ag, cg, rg, rfl, h2, h3, h4, h5, h6, h7, h8⟩ := hd
  have hV := RVictim_spec p hi (.agg #[.slice a p.fs.length c, .int .i64 p.hand]) D ⟨a, c, r, rfl, h2, h6⟩
  have hvi := Pt.victim_inv hi
  have hsmall := hvi.ok.2.2
  have hout : mMiss m p = mMiss m p := rfl
  conv at hout => rhs; unfold mMiss
  generalize mMiss m p = out at *
  cases hv : p.victim.2 with
  | none =>
    rw [hv] at hV hout
    simp only at hV hout
    subst hout
    refine Ctr.enter (n := 58) [.cell 4 36, .cell 5 77] [(0, _), (1, _)] Try.func44 rfl rfl rfl (lb rfl) Try.call44 ⟨rfl, rfl, trivial⟩ ?_
    intro cx fin fin0
    refine aG ?_
    repeat (first | refine gw ?_ | refine gN fun _ => ?_ | refine gB fun _ => ?_ | fail)
    refine aC (o := hV) (h := ?_) (hro := RoIn.all (fun p hp => by simp [hp]))
    rintro _ _ ⟨H, v1, rfl, rfl, a2, c2, r2, rfl, hro2, hsub2⟩
    refine aG ?_
    repeat (first | refine gx ?_ | refine gN fun _ => ?_ | refine gB fun _ => ?_ | fail)
    refine aBu (ps := [_]) ?_
    refine aBu (ps := [_]) ?_
    repeat (first | refine gx ?_ | refine gN fun _ => ?_ | refine gB fun _ => ?_ | fail)
    refine W.drawH tab_ok 4 [.b false, .b false, .b true, .b true] [3,4] follows (by decide +kernel) (by decide +kernel) rfl (by decide) rfl ?_
    intro _
    refine dG ?_
    repeat (first | refine dL ?_ | refine dS ?_ | (refine dN ?_; intro _; refine dG ?_) | (refine dB ?_; intro _; refine dG ?_) | fail)
    refine WD.nil (W.dropNil (aG ?_))
    refine W.order [4, 0, 0] rfl ?_
    refine W.ret (fin _ _ (FinOk.first 1 (aRc (aRc .nil)) rfl ?_))
    exact ⟨H, _, rfl, rfl, a2, c2, r2, at_, ct, rt, ag, cg, rg, rfl, hro2, h3, h4, h5, hsub2, fun q hq => List.mem_append_right _ (h7 q hq), fun q hq => List.mem_append_right _ (h8 q hq)⟩
  | some j =>
    rw [hv] at hV hout
    obtain ⟨hj, hpins⟩ := victim_some hi hv
    simp only at hV hout
    have hW := fun v D hd f => RWith_spec p.victim.1.fs hvi.ok.2.1 hvi.ok.2.2 p.victim.1.hand v D hd j hj f
    have hPl := RFetch_spec m.page (p.victim.1.at_ (j : Int)).page (p.victim.1.at_ (j : Int)).dirty
    have hpl4 := plan_len m.page (p.victim.1.at_ (j : Int)).page (p.victim.1.at_ (j : Int)).dirty
    have hrel := release_fs hj hpins
    have hat := Pt.at_nat hj
    refine Ctr.enter (n := 58) [.cell 4 36, .cell 5 77] [(0, _), (1, _)] Try.func44 rfl rfl rfl (lb rfl) Try.call44 ⟨rfl, rfl, trivial⟩ ?_
    intro cx fin fin0
    refine aG ?_
    repeat (first | refine gw ?_ | refine gN fun _ => ?_ | refine gB fun _ => ?_ | fail)
    refine aC (o := hV) (h := ?_) (hro := RoIn.all (fun p hp => by simp [hp]))
    rintro _ _ ⟨H, v1, rfl, rfl, a2, c2, r2, rfl, hro2, hsub2⟩
    refine aG ?_
    repeat (first | refine gx ?_ | refine gN fun _ => ?_ | refine gB fun _ => ?_ | fail)
    refine aBu (ps := [_]) ?_
    refine aBu (ps := [_]) ?_
    repeat (first | refine gx ?_ | refine gN fun _ => ?_ | refine gB fun _ => ?_ | fail)
    obtain ⟨bx, ox, lx, ex, frx, rfl, hmem, hseg, hld⟩ := doc_at hro2 hj
    rw [← hat] at hseg
    have hat2 : ∀ (L : List HL), H ∈ L → At D L bx (.cells lx.toArray ex frx) := fun L hL => by
      rcases List.mem_append.1 (hsub2 _ hmem) with h | h
      · exact .inl (List.mem_flatten.2 ⟨_, hL, h⟩)
      · exact .inr h
    generalize p.victim.1.at_ (j : Int) = f at *
    obtain ⟨fu, fd, fr, fn, fp, fb⟩ := f
    refine aV (OpVal.ixSl tab_ok rfl rfl rfl rfl rfl hj) ?_
    refine aV (OpVal.loadN ty_43.1 ty_43.2 rfl (hat2 _ (by simp)) hseg) ?_
    repeat (first | refine gx ?_ | refine gN fun _ => ?_ | refine gB fun _ => ?_ | fail)
    refine aC (o := hPl) (h := ?_)
    rintro _ _ ⟨an, cn, Hn, rfl, rfl, hn⟩
    refine aG ?_
    cases fu
    case' true => cases fd
    case' true.false =>
      subst hout
      have hE := REmpty_spec
      repeat (first | refine gx ?_ | refine gN fun _ => ?_ | refine gB fun _ => ?_ | fail)
      refine W.drawH tab_ok 7 [.b false, .b true, .b false, .b false, .b true, .b false, .b true] [7] follows (by decide +kernel) (by decide +kernel) rfl (by decide) rfl ?_
      intro _
      refine dG ?_
      repeat (first | refine dL ?_ | refine dS ?_ | (refine dN ?_; intro _; refine dG ?_) | (refine dB ?_; intro _; refine dG ?_) | fail)
      refine dLA ?_
      refine dQ (o := hE) (h := ?_)
      refine dC (o := hW _ (H ++ D) ⟨_, c2, _, rfl, hro2, hsub2⟩ Fr.zero) (h := ?_) (hro := RoIn.all (fun q hq => (List.mem_append.1 hq).elim (fun h => by simp [h]) (fun h => by simp [h])))
      rintro _ _ ⟨H2, rfl, a3, c3, r3, rfl, hro3, hsub3⟩
      refine dG ?_
      repeat (first | refine dL ?_ | refine dS ?_ | (refine dN ?_; intro _; refine dG ?_) | (refine dB ?_; intro _; refine dG ?_) | fail)
      refine WD.nil (W.dropNil (aG ?_))
      repeat (first | refine gx ?_ | refine gN fun _ => ?_ | refine gB fun _ => ?_ | fail)
      refine W.drawH tab_ok 4 [.b false, .b false, .b true, .b true] [7,8] follows (by decide +kernel) (by decide +kernel) rfl (by decide) rfl ?_
      intro _
      refine dG ?_
      repeat (first | refine dL ?_ | refine dS ?_ | (refine dN ?_; intro _; refine dG ?_) | (refine dB ?_; intro _; refine dG ?_) | fail)
      refine WD.nil (W.dropNil (aG ?_))
      refine W.groupV [4, 2] rfl ?_
      refine W.ret (fin _ _ (FinOk.first 1 (aRc (aRc .nil)) rfl ?_))
      rw [if_pos ⟨rfl, rfl⟩, if_pos ⟨rfl, rfl⟩]
      rw [← hrel.1, ← hrel.2] at *
      exact ⟨Hn ++ H2, _, rfl, rfl, _, c3, _, an, cn, _, ag, cg, rg, rfl, hro3, hn.roSl, h4, hn.cap_le, fun q hq => by simp [hsub3 q hq], fun q hq => by simp [hq], fun q hq => List.mem_append_right _ (h8 q hq)⟩
    case' some.false =>
      subst hout
      repeat (first | refine gx ?_ | refine gN fun _ => ?_ | refine gB fun _ => ?_ | fail)
      refine W.drawH tab_ok 4 [.b false, .b false, .b true, .b true] [5,6] follows (by decide +kernel) (by decide +kernel) rfl (by decide) rfl ?_
      intro _
      refine dG ?_
      repeat (first | refine dL ?_ | refine dS ?_ | (refine dN ?_; intro _; refine dG ?_) | (refine dB ?_; intro _; refine dG ?_) | fail)
      refine WD.nil (W.dropNil (aG ?_))
      refine W.groupV [2, 5] rfl ?_
      refine W.ret (fin _ _ (FinOk.first 1 (aRc (aRc .nil)) rfl ?_))
      rw [if_neg (by simp), if_neg (by simp)]
      exact ⟨Hn ++ H, _, rfl, rfl, _, c2, _, an, cn, _, ag, cg, rg, rfl, hro2, hn.roSl, h4, hn.cap_le, fun q hq => (List.mem_append.1 (hsub2 q hq)).elim (fun h => by simp [h]) (fun h => by simp [h]), fun q hq => by simp [hq], fun q hq => List.mem_append_right _ (h8 q hq)⟩
    case' true.true =>
      subst hout
      repeat (first | refine gx ?_ | refine gN fun _ => ?_ | refine gB fun _ => ?_ | fail)
      refine W.drawH tab_ok 4 [.b false, .b false, .b true, .b true] [5,6] follows (by decide +kernel) (by decide +kernel) rfl (by decide) rfl ?_
      intro _
      refine dG ?_
      repeat (first | refine dL ?_ | refine dS ?_ | (refine dN ?_; intro _; refine dG ?_) | (refine dB ?_; intro _; refine dG ?_) | fail)
      refine WD.nil (W.dropNil (aG ?_))
      refine W.groupV [2, 5] rfl ?_
      refine W.ret (fin _ _ (FinOk.first 1 (aRc (aRc .nil)) rfl ?_))
      rw [if_neg (by simp), if_neg (by simp)]
      exact ⟨Hn ++ H, _, rfl, rfl, _, c2, _, an, cn, _, ag, cg, rg, rfl, hro2, hn.roSl, h4, hn.cap_le, fun q hq => (List.mem_append.1 (hsub2 q hq)).elim (fun h => by simp [h]) (fun h => by simp [h]), fun q hq => by simp [hq], fun q hq => List.mem_append_right _ (h8 q hq)⟩
end Go.Proofs.Ytgipjpiiomgjjaa
