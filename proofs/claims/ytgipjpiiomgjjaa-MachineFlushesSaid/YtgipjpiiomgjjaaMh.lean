/-
  The document's machine: Begin, Data.
-/
import Derived.Test.YtgipjpiiomgjjaaMg
namespace Go.Proofs.Ytgipjpiiomgjjaa
open Go Go.Sl Go.IntWalk
set_option maxHeartbeats 8000000
set_option maxRecDepth 20000
theorem RBegin_spec (m : Mc) (p : Pt) (hi : p.Inv) (v : Value) (D : HL) (hd : DocM m p v D) (q : Rq) (h1 : 1 ≤ q.op) (h8 : q.op ≤ 8) (ho : i64s q.off) (hl : i64s q.len) (h0 : q.op = 5 → 0 ≤ q.page) (aq : Option Addr) (cq : Nat) (hqd : q.data.length ≤ 1000000) (rq : HL) (hrq : RoSl 1 (u8s q.data) aq q.data.length rq) :
    Ctr Try.prog 28 [v, q.v aq cq] [] (D ++ rq) (DocOut (mBegin m p q) D) := by
  have hs : ∀ x ∈ D, x ∈ D ++ rq := fun x hx => List.mem_append_left _ hx
  have hop : q.op = 1 ∨ q.op = 2 ∨ q.op = 3 ∨ q.op = 4 ∨ q.op = 5 ∨ q.op = 6 ∨ q.op = 7 ∨ q.op = 8 := by omega
  rcases hop with h | h | h | h | h | h | h | h
  · exact (RBegin1_spec m p hi v D hd q h aq cq).ro hs
  · exact (RBegin2_spec m p hi v D hd q h ho hl aq cq).ro hs
  · exact RBegin3_spec m p hi v D hd q h ho aq cq hqd rq hrq
  · exact (RBegin4_spec m p hi v D hd q h aq cq).ro hs
  · exact (RBegin5_spec m p hi v D hd q h (h0 h) aq cq).ro hs
  · exact (RBegin6_spec m p hi v D hd q h aq cq).ro hs
  · exact (RBegin7_spec m p hi v D hd q h aq cq).ro hs
  · exact (RBegin8_spec m p hi v D hd q h aq cq).ro hs
theorem bstr_extract (bs : List Int) (l h : Nat) : (bstr bs).extract l h = bstr ((bs.drop l).take (h - l)) := by
  apply ByteArray.ext
  rw [ByteArray.data_extract]
  simp [bstr, List.extract_eq_take_drop, List.map_take, List.map_drop]
theorem _root_.Go.Sl.OpVal.strSl {P : Program} {T : Tab} (hT : TabOk P T) {n : Nat} {R : HL} {cx : Cx} {ρ : Env} {L : List HL} {t ty : TypeId} {x lo hi : Operand} {bs : List Int} {k1 k2 : IntKind} {l h : Nat}
    (hx : ev? ρ x = some (.string (bstr bs))) (ht : hasNat T.strs t = true) (hl : ev? ρ lo = some (.int k1 (l : Int))) (hh : ev? ρ hi = some (.int k2 (h : Int))) (h1 : l ≤ h) (h2 : h ≤ bs.length) :
    OpVal P n R cx (.slice t x (some lo) (some hi) none) ty ρ L (.string (bstr ((bs.drop l).take (h - l)))) := by
  refine ⟨fun oo a w ho hty hf hs => ?_⟩
  have hu := hT.strs _ (hasNat_mem ht)
  have h3 : h ≤ (bstr bs).size := by rw [bstr_size]; exact h2
  unfold execOp; rw [ho]
  simp [Instr.sliceAt, Instr.slice, Instr.sliceBounds, Instr.sliceBound, underlying, hu, hf.ev hx, hf.ev hl, hf.ev hh, asIntOf, h1, h3, bstr_extract]
theorem RData_spec (m : Mc) (p : Pt) (hi : p.Inv) (v : Value) (D : HL) (hd : DocM m p v D) (hk : m.io.1 = 2 → m.io.2.2 = 0 ∨ m.io.2.2 = 1) : Ctr Try.prog 39 [v] [] D (fun v' L' => v' = .string (bstr (m.data p)) ∧ L' = []) := by
  obtain ⟨a, c, r, at_, ct, rt, ag, cg, rg, rfl, h2, h3, h4, h5, h6, h7, h8⟩ := hd
  have hF := RFindP_spec p hi p.hand (.agg #[.slice a p.fs.length c, .int .i64 p.hand]) D ⟨a, c, r, rfl, h2, h6⟩ m.io.2.1
  have hdat : m.data p = m.data p := rfl
  conv at hdat => rhs; unfold Mc.data
  generalize m.data p = dat at *
  obtain ⟨mo, mpg, mto, todo, mgot⟩ := m
  simp only [Mc.io] at *
  cases todo with
  | nil =>
    replace hdat : dat = [] := by simpa using hdat
    subst hdat
    refine Ctr.enter (n := 40) [.tmp 2] [(0, _)] Try.func39 rfl rfl rfl (lb rfl) Try.call39 ⟨rfl, trivial⟩ ?_
    intro cx fin fin0
    refine aG ?_
    repeat (first | refine gx ?_ | refine gN fun _ => ?_ | refine gB fun _ => ?_ | fail)
    refine W.ret (fin _ _ (FinOk.mk' ([]) (.tmp rfl .nil) (by repeat (first | exact Sel.nil | (apply Sel.cons; (repeat (first | exact Pick.here | apply Pick.there))))) rfl ?_))
    exact ⟨rfl, rfl⟩
  | cons x rest =>
    obtain ⟨xk, xp, xq⟩ := x
    simp only [List.headD_cons] at *
    rw [if_neg (by simp)] at hdat
    have hn : 0 < ((xk, xp, xq) :: rest).length := by simp
    have hnz : ¬ ((((xk, xp, xq) :: rest).length : Nat) : Int) = 0 := by simp; omega
    obtain ⟨by_, oy, ly, ey, fry, rfl, rfl, hs, -⟩ := RoSl.at (f := io3) (m := 3) (fun _ => rfl) h3 hn
    have hat : ∀ L, At D L by_ (.cells ly.toArray ey fry) := fun L => .inr (h7 _ (by simp))
    by_cases hk2 : xk = 2
    case' neg =>
      replace hdat : dat = [] := by simpa [hk2] using hdat
      subst hdat
      refine Ctr.enter (n := 40) [.tmp 2] [(0, _)] Try.func39 rfl rfl rfl (lb rfl) Try.call39 ⟨rfl, trivial⟩ ?_
      intro cx fin fin0
      refine aG ?_
      repeat (first | refine gh hnz ?_ | refine gN fun _ => ?_ | refine gB fun _ => ?_ | fail)
      refine aV (OpVal.ixSl tab_ok rfl rfl rfl rfl rfl hn) ?_
      refine aV (OpVal.loadN ty_102.1 ty_102.2 rfl (hat _) hs) ?_
      repeat (first | refine gx ?_ | refine gN fun _ => ?_ | refine gB fun _ => ?_ | fail)
      refine aC (o := hF) (h := ?_) (hro := RoIn.all (fun p hp => by simp [hp]))
      rintro _ _ ⟨rfl, rfl⟩
      refine aG ?_
      repeat (first | refine gh hk2 ?_ | refine gN fun _ => ?_ | refine gB fun _ => ?_ | fail)
      refine W.ret (fin _ _ (FinOk.mk' ([]) (.tmp rfl .nil) (by repeat (first | exact Sel.nil | (apply Sel.cons; (repeat (first | exact Pick.here | apply Pick.there))))) rfl ?_))
      exact ⟨rfl, rfl⟩
    subst hk2
    simp only [↓reduceIte] at hdat
    cases hg : mget p.tbl xp with
    | none =>
      rw [hg] at hdat hF
      subst hdat
      refine Ctr.enter (n := 40) [.tmp 2] [(0, _)] Try.func39 rfl rfl rfl (lb rfl) Try.call39 ⟨rfl, trivial⟩ ?_
      intro cx fin fin0
      refine aG ?_
      repeat (first | refine gh hnz ?_ | refine gN fun _ => ?_ | refine gB fun _ => ?_ | fail)
      refine aV (OpVal.ixSl tab_ok rfl rfl rfl rfl rfl hn) ?_
      refine aV (OpVal.loadN ty_102.1 ty_102.2 rfl (hat _) hs) ?_
      repeat (first | refine gx ?_ | refine gN fun _ => ?_ | refine gB fun _ => ?_ | fail)
      refine aC (o := hF) (h := ?_) (hro := RoIn.all (fun p hp => by simp [hp]))
      rintro _ _ ⟨rfl, rfl⟩
      refine aG ?_
      repeat (first | refine gx ?_ | refine gN fun _ => ?_ | refine gB fun _ => ?_ | fail)
      refine W.ret (fin _ _ (FinOk.mk' ([]) (.tmp rfl .nil) (by repeat (first | exact Sel.nil | (apply Sel.cons; (repeat (first | exact Pick.here | apply Pick.there))))) rfl ?_))
      exact ⟨rfl, rfl⟩
    | some i =>
      obtain ⟨j, hj, rfl, -, -⟩ := hi.tbl xp i hg
      rw [hg] at hdat hF
      simp only [Pt.at_nat hj] at hdat
      have hfo : p.fs[j].b.length = 32 := hi.ok.1 _ (List.getElem_mem hj)
      have c1 : ¬ ((j : Int) < 0) := by omega
      obtain ⟨bx, ox, lx, ex, frx, rfl, hmem, _, hld⟩ := doc_at h2 hj
      have hat2 : ∀ L, At D L bx (.cells lx.toArray ex frx) := fun L => .inr (h6 _ hmem)
      have lb5 : lx[ox + j * 6 + 5]? = some (.string (bstr p.fs[j].b)) := hld 5 (by decide)
      generalize p.fs[j].b = pg at *
      subst hdat
      refine Ctr.enter (n := 40) [.tmp 2] [(0, _)] Try.func39 rfl rfl rfl (lb rfl) Try.call39 ⟨rfl, trivial⟩ ?_
      intro cx fin fin0
      refine aG ?_
      repeat (first | refine gh hnz ?_ | refine gN fun _ => ?_ | refine gB fun _ => ?_ | fail)
      refine aV (OpVal.ixSl tab_ok rfl rfl rfl rfl rfl hn) ?_
      refine aV (OpVal.loadN ty_102.1 ty_102.2 rfl (hat _) hs) ?_
      repeat (first | refine gx ?_ | refine gN fun _ => ?_ | refine gB fun _ => ?_ | fail)
      refine aC (o := hF) (h := ?_) (hro := RoIn.all (fun p hp => by simp [hp]))
      rintro _ _ ⟨rfl, rfl⟩
      refine aG ?_
      repeat (first | refine gh c1 ?_ | refine gN fun _ => ?_ | refine gB fun _ => ?_ | fail)
      refine W.draw follows (by decide +kernel) (zG ?_)
      repeat (first | refine zL ?_ | fail)
      refine zV (OpVal.ixSl tab_ok rfl rfl rfl rfl rfl hj) ?_
      repeat (first | refine zL ?_ | fail)
      refine zV (OpVal.load tab_ok rfl (hat2 _) lb5) ?_
      repeat (first | refine zL ?_ | fail)
      rcases hk rfl with rfl | rfl
      case' inl =>
        refine zV (OpVal.mul (i := 16) (j := 0) (r := 0) rfl rfl (by decide)) ?_
        repeat (first | refine zL ?_ | fail)
        refine zV (OpVal.mul (i := 16) (j := 0) (r := 0) rfl rfl (by decide)) ?_
        refine zV (OpVal.add (r := 16) rfl rfl (by decide)) ?_
        refine zV (OpVal.strSl (bs := pg) (l := 0) (h := 16) tab_ok rfl rfl rfl rfl (by decide) (by omega)) ?_
      case' inr =>
        refine zV (OpVal.mul (i := 16) (j := 1) (r := 16) rfl rfl (by decide)) ?_
        repeat (first | refine zL ?_ | fail)
        refine zV (OpVal.mul (i := 16) (j := 1) (r := 16) rfl rfl (by decide)) ?_
        refine zV (OpVal.add (r := 32) rfl rfl (by decide)) ?_
        refine zV (OpVal.strSl (bs := pg) (l := 16) (h := 32) tab_ok rfl rfl rfl rfl (by decide) (by omega)) ?_
      all_goals
        repeat (first | refine zL ?_ | fail)
        refine WZ.nil (aG ?_)
        refine W.ret (fin _ _ (FinOk.mk' ([]) (.tmp rfl .nil) (by repeat (first | exact Sel.nil | (apply Sel.cons; (repeat (first | exact Pick.here | apply Pick.there))))) rfl ?_))
        refine ⟨?_, rfl⟩
      · unfold sect
        rw [if_neg (by decide), List.take_of_length_le (by simp; omega)]
        rfl
      · rfl
end Go.Proofs.Ytgipjpiiomgjjaa
