/-
  The machine of the program: Begin, End.
-/
import Derived.Test.YtgipjpiiomgjjaaMc
namespace Go.Proofs.Ytgipjpiiomgjjaa
open Go Go.Sl Go.IntWalk
set_option maxHeartbeats 8000000
set_option maxRecDepth 20000
def mBegin (m : Mc) (p : Pt) (q : Rq) : Mc × Pt × Re := mOp { m with op := q.op, page := q.page } p q
theorem Begin_spec (m : Mc) (b bp : Nat) (H : HL) (hm : MAt m b bp H) (p : Pt) (hi : p.Inv) (Hp : HL) (hp : PtAt p bp Hp) (q : Rq) (h1 : 1 ≤ q.op) (h8 : q.op ≤ 8) (ho : i64s q.off) (aq : Option Addr) (cq : Nat) (rq : HL) (hrq : RoSl 1 (u8s q.data) aq q.data.length rq) :
    Ctr Try.prog 19 [.pointer (some ⟨b, 0, none⟩), q.v aq cq] [H, Hp] rq (OpPost (mBegin m p q) b bp) := by
  obtain ⟨a, ct, ag, cg, Ht, Hg, rfl, hro, hct, hown⟩ := hm
  have hops := Ops_spec b
  have hCV := fun b1 H1 hm1 => Op_spec { m with op := q.op, page := q.page } b bp H1 hm1 p hi Hp hp q h1 h8 rfl ho aq cq rq hrq b1
  have hget := fun b1 => ops_get b b1 h1 h8
  have hb : mBegin m p q = mOp { m with op := q.op, page := q.page } p q := rfl
  rw [hb]
  generalize mOp { m with op := q.op, page := q.page } p q = out at *
  obtain ⟨qo, qp, qf, ql, qd⟩ := q
  simp only at *
  refine Ctr.enter (n := 22) [.cell 4 52] [(0, _), (1, _)] Try.func19 rfl rfl rfl (lb rfl) Try.call19 ⟨rfl, rfl, trivial⟩ ?_
  intro cx fin fin0
  refine aG ?_
  repeat (first | refine gw ?_ | refine gN fun _ => ?_ | refine gB fun _ => ?_ | fail)
  refine W.order [2, 0, 0, 0] rfl ?_
  refine W.split3 rfl ?_
  refine aG ?_
  refine W.drawH tab_ok 12 [.b false, .b false, .b false, .b false, .b false, .b false, .b false, .b false, .b true, .b false, .b false, .b true] [0] follows (by decide +kernel) (by decide +kernel) rfl (by decide) rfl ?_
  intro _
  refine dG ?_
  repeat (first | refine dL ?_ | refine dS ?_ | (refine dN ?_; intro _; refine dG ?_) | (refine dB ?_; intro _; refine dG ?_) | fail)
  refine WD.nil (W.dropNil (aG ?_))
  refine W.groupV [0, 0, 0] rfl ?_
  have hm1 : MAt ⟨qo, qp, m.to, m.todo, m.got⟩ b bp _ := ⟨a, ct, ag, cg, Ht, Hg, rfl, hro, hct, hown⟩
  have hCV1 := fun b1 => hCV b1 _ hm1
  refine aG ?_
  refine W.drawH tab_ok 8 [.b false, .b true, .b false, .b false, .b true, .b false, .b true, .b true] [0,1,3] follows (by decide +kernel) (by decide +kernel) rfl (by decide) rfl ?_
  intro _
  refine dG ?_
  refine dC (o := hops) (h := ?_)
  rintro _ _ ⟨bm, b1, Hm, rfl, rfl, es, clock, rfl, hmap⟩
  refine dG ?_
  repeat (first | refine dL ?_ | refine dS ?_ | (refine dN ?_; intro _; refine dG ?_) | (refine dB ?_; intro _; refine dG ?_) | fail)
  refine dVA (OpVal.lookup1 Try.underlying98 Try.underlying3 rfl rfl (at_own 0 rfl) hmap (hget b1)) ?_
  repeat (first | refine dL ?_ | refine dS ?_ | (refine dN ?_; intro _; refine dG ?_) | (refine dB ?_; intro _; refine dG ?_) | fail)
  refine WD.callV rfl rfl rfl (hCV1 b1) (by repeat (first | exact Sel.nil | (apply Sel.cons; (repeat (first | exact Pick.here | apply Pick.there))))) (RoIn.cons (at_own 1 rfl) (RoIn.all fun q hq => List.mem_append_right _ hq)) (lb rfl) ?_
  rintro _ _ ⟨an, nn, cn, H', Hp', Hd, rfl, rfl, g1, g2, g3, g4⟩
  refine dG ?_
  repeat (first | refine dL ?_ | refine dS ?_ | (refine dN ?_; intro _; refine dG ?_) | (refine dB ?_; intro _; refine dG ?_) | fail)
  refine WD.nil (W.dropNil (aG ?_))
  repeat (first | refine gw ?_ | refine gN fun _ => ?_ | refine gB fun _ => ?_ | fail)
  refine W.ret (fin _ _ (FinOk.first 3 (aRc .nil) rfl ?_))
  exact ⟨_, _, _, _, _, _, rfl, rfl, g1, g2, g3, g4⟩
/-- A step is over: what is left of it. -/
def mStep (m : Mc) (p : Pt) (bs : List Int) : Mc × Pt × C6 :=
  if m.io.1 = 2 ∧ m.io.2.2 = 1 then ({ m with todo := m.todo.tail }, mStored m p m.io.2.1) else if m.io.1 = 1 then ({ m with todo := m.todo.tail, got := m.got ++ bs }, p, C6.none) else ({ m with todo := m.todo.tail }, p, C6.none)
def mEnd (m : Mc) (p : Pt) (e : Int) (bs : List Int) : Mc × Pt × Re :=
  if e ≠ 0 then (Mc.idle, p, ⟨true, 9, false, [], ⟨0, 0, 0, 0, 0, 1⟩⟩)
  else if 0 < (mStep m p bs).1.todo.length then ((mStep m p bs).1, (mStep m p bs).2.1, ⟨false, 0, false, [], (mStep m p bs).2.2⟩)
  else (Mc.idle, if m.op = 1 then (((mStep m p bs).2.1.load m.to m.page (mStep m p bs).1.got).1.doPage m.page Fr.pin).1 else (mStep m p bs).2.1, ⟨true, 0, false, [], (mStep m p bs).2.2⟩)
theorem End_spec (m : Mc) (hne : m.todo ≠ []) (b bp : Nat) (H : HL) (hm : MAt m b bp H) (p : Pt) (hi : p.Inv) (Hp : HL) (hp : PtAt p bp Hp) (e : Int) (bs : List Int) (ab : Option Addr) (cb : Nat) (rb : HL) (hrb : RoSl 1 (u8s bs) ab bs.length rb)
    (hlen : m.got.length + bs.length ≤ 100000) (hsi : (mStep m p bs).2.1.Inv) (hli : ((mStep m p bs).2.1.load m.to m.page (mStep m p bs).1.got).1.Inv) :
    Ctr Try.prog 16 [.pointer (some ⟨b, 0, none⟩), .int .i64 e, .slice ab bs.length cb] [H, Hp] rb (fun v L' => ∃ H' Hp', v = (mEnd m p e bs).2.2.v none 0 0 ∧ L' = [H', Hp'] ∧ MAt (mEnd m p e bs).1 b bp H' ∧ PtAt (mEnd m p e bs).2.1 bp Hp') := by
  have hStop := Stop_spec m b bp H hm
  have hdone := done_spec 9
  obtain ⟨a, ct, ag, cg, Ht, Hg, rfl, hro, hct, hown⟩ := hm
  have hout : mEnd m p e bs = mEnd m p e bs := rfl
  conv at hout => rhs; unfold mEnd
  generalize mEnd m p e bs = out at *
  by_cases he : e = 0
  · rw [if_neg (by simpa using he)] at hout
    obtain ⟨mo, mpg, mto, todo, mgot⟩ := m
    cases todo with
    | nil => exact absurd rfl hne
    | cons x rest =>
      obtain ⟨xk, xp, xq⟩ := x
      have h0 : 0 < ((xk, xp, xq) :: rest).length := by simp
      have hl1 : 1 ≤ ((xk, xp, xq) :: rest).length := by simp
      obtain ⟨bx, ox, lx, ex, frx, hbx, hHt, hs, -⟩ := RoSl.at (f := io3) (m := 3) (fun _ => rfl) hro h0
      have hro2 : RoSl 3 (ios rest) (a.map fun ad => if ct = 1 then ad else ad.add (1 * 3)) rest.length Ht := by
        rcases RoSl.drop (f := io3) (cap := ct) (fun _ => rfl) hro 1 hl1 with h | h
        · exact h
        · omega
      have hct2 : rest.length ≤ ct - 1 := by simp at hct; omega
      subst hbx hHt
      refine Ctr.enter (n := 97) [.cell 6 52] [(0, _), (1, _), (2, _)] Try.func16 rfl rfl rfl (lb rfl) Try.call16 ⟨rfl, rfl, rfl, trivial⟩ ?_
      intro cx fin fin0
      refine aG ?_
      repeat (first | refine gw ?_ | refine gN fun _ => ?_ | refine gB fun _ => ?_ | fail)
      refine aF ?_ (hb := by exact gd he)
      refine W.order [1, 1, 0] rfl ?_
      refine W.split3 rfl ?_
      refine aG ?_
      repeat (first | refine gw ?_ | refine gN fun _ => ?_ | refine gB fun _ => ?_ | fail)
      refine aV (OpVal.ixSl tab_ok rfl rfl rfl rfl rfl h0) ?_
      refine aV (OpVal.loadN ty_83.1 ty_83.2 rfl (at_own 1 rfl) hs) ?_
      repeat (first | refine gw ?_ | refine gN fun _ => ?_ | refine gB fun _ => ?_ | fail)
      refine aV (OpVal.back tab_ok rfl rfl rfl rfl rfl hl1 hct) ?_
      repeat (first | refine gw ?_ | refine gN fun _ => ?_ | refine gB fun _ => ?_ | fail)
      have hms : mStep ⟨mo, mpg, mto, (xk, xp, xq) :: rest, mgot⟩ p bs = if xk = 2 ∧ xq = 1 then (⟨mo, mpg, mto, rest, mgot⟩, mStored ⟨mo, mpg, mto, rest, mgot⟩ p xp) else if xk = 1 then (⟨mo, mpg, mto, rest, mgot ++ bs⟩, p, C6.none) else (⟨mo, mpg, mto, rest, mgot⟩, p, C6.none) := rfl
      have hgl : mgot.length + bs.length ≤ 100000 := hlen
      generalize mStep ⟨mo, mpg, mto, (xk, xp, xq) :: rest, mgot⟩ p bs = st at *
      by_cases hA : xk = 2 ∧ xq = 1
      case' pos =>
        rw [if_pos hA] at hms
        obtain ⟨rfl, rfl⟩ := hA
        repeat (first | refine gx ?_ | refine gN fun _ => ?_ | refine gB fun _ => ?_ | fail)
        refine W.groupV [2, 2, 2] rfl ?_
        have hm1 : MAt ⟨mo, mpg, mto, rest, mgot⟩ b bp _ := ⟨_, _, _, _, _, _, rfl, hro2, hct2, hown⟩
        have hSt := Stored_spec ⟨mo, mpg, mto, rest, mgot⟩ b bp _ hm1 p hi Hp hp xp
        refine aG ?_
        repeat (first | refine gx ?_ | refine gN fun _ => ?_ | refine gB fun _ => ?_ | fail)
        refine aC (o := hSt) (h := ?_) (hro := RoIn.own 0 rfl)
        rintro _ _ ⟨Hp2, rfl, rfl, hp2⟩
        refine aG ?_
        repeat (first | refine gx ?_ | refine gN fun _ => ?_ | refine gB fun _ => ?_ | fail)
        refine W.order [1, 0, 0, 0, 0] rfl ?_
        refine W.split3 rfl ?_
        have hown2 := hown
      case' neg =>
        rw [if_neg hA] at hms
        have hp2 := hp
        by_cases hB : xk = 1
        case' pos =>
          rw [if_pos hB] at hms
          subst hB
          repeat (first | refine gx ?_ | refine gN fun _ => ?_ | refine gB fun _ => ?_ | fail)
          refine aPr (appU8 tab_ok rfl rfl rfl hown (by intro p hp; simp [hp]) rfl hrb (fun q hq => .inr hq) (by omega) (by omega)) ?_
          rintro _ _ ⟨ag2, cg2, Hg2, rfl, rfl, hown2⟩
          refine aG ?_
          repeat (first | refine gx ?_ | refine gN fun _ => ?_ | refine gB fun _ => ?_ | fail)
          have hm1 : MAt ⟨mo, mpg, mto, rest, mgot ++ bs⟩ b bp _ := ⟨_, _, _, _, _, _, rfl, hro2, hct2, hown2⟩
          refine W.order [3, 3, 0, 2, 0, 0, 0] rfl ?_
          refine aG ?_
        case' neg =>
          rw [if_neg hB] at hms
          have hown2 := hown
          have hm1 : MAt ⟨mo, mpg, mto, rest, mgot⟩ b bp _ := ⟨_, _, _, _, _, _, rfl, hro2, hct2, hown⟩
          by_cases h2 : xk = 2
          case' pos =>
            have hq1 : ¬ xq = 1 := fun h => hA ⟨h2, h⟩
            subst h2
            repeat (first | refine gh hq1 ?_ | refine gN fun _ => ?_ | refine gB fun _ => ?_ | fail)
          case' neg =>
            repeat (first | refine gh (gc2 h2 hB) ?_ | refine gN fun _ => ?_ | refine gB fun _ => ?_ | fail)
          all_goals
            refine W.order [2, 2, 2, 2, 0, 0, 0] rfl ?_
            refine aG ?_
      all_goals
        refine aC (o := Busy_spec _ b bp _ hm1) (h := ?_) (hro := RoIn.append (RoIn.own 0 rfl) (RoIn.append (RoIn.own 1 rfl) (RoIn.own 2 rfl)))
        rintro _ _ ⟨rfl, rfl⟩
        refine aG ?_
        cases rest with
        | cons y rest =>
          have hpos : 0 < st.1.todo.length := by rw [hms]; simp
          rw [if_pos hpos] at hout
          subst hout hms
          repeat (first | refine gx ?_ | refine gN fun _ => ?_ | refine gB fun _ => ?_ | fail)
          refine W.groupV [0, 0, 0] rfl ?_
          refine W.order [0, 0, 2] rfl ?_
          refine W.ret (fin _ _ (FinOk.first 2 (aRc .nil) rfl ?_))
          exact ⟨_, _, rfl, rfl, hm1, hp2⟩
        | nil =>
          have hpos : ¬ 0 < st.1.todo.length := by rw [hms]; simp
          rw [if_neg hpos] at hout
          repeat (first | refine gx ?_ | refine gN fun _ => ?_ | refine gB fun _ => ?_ | fail)
          by_cases ho : mo = 1
          case' pos =>
            rw [if_pos ho] at hout
            subst ho
            subst hms
            have hL := fun cb => Load_spec _ hsi.ok bp _ hp2 mto mpg _ _ cb _ (Own.roSl hown2)
            repeat (first | refine gx ?_ | refine gN fun _ => ?_ | refine gB fun _ => ?_ | fail)
            refine W.drawH tab_ok 17 [.b false, .b false, .b false, .b false, .b false, .b false, .b false, .b false, .b false, .b false, .b false, .b false, .b false, .b false, .b false, .b false, .b true] [3] follows (by decide +kernel) (by decide +kernel) rfl (by decide) rfl ?_
            intro _
            refine dG ?_
            repeat (first | refine dL ?_ | refine dS ?_ | (refine dN ?_; intro _; refine dG ?_) | (refine dB ?_; intro _; refine dG ?_) | fail)
            refine dC (o := hL _) (h := ?_) (hro := RoIn.all (fun q hq => by simp [hq]))
            rintro _ _ ⟨rfl, Hp3, rfl, hp3⟩
            refine dG ?_
            refine WD.nil (W.dropNil (aG ?_))
            have hPn := PPin_spec _ hli bp Hp3 hp3 mpg
            refine W.drawH tab_ok 9 [.b false, .b false, .b false, .b false, .b false, .b false, .b false, .b false, .b true] [0] follows (by decide +kernel) (by decide +kernel) rfl (by decide) rfl ?_
            intro _
            refine dG ?_
            repeat (first | refine dL ?_ | refine dS ?_ | (refine dN ?_; intro _; refine dG ?_) | (refine dB ?_; intro _; refine dG ?_) | fail)
            refine dC (o := hPn) (h := ?_)
            rintro _ _ ⟨rfl, Hp4, rfl, hp4⟩
            refine dG ?_
            refine WD.nil (W.dropNil (aG ?_))
            refine W.groupV [1, 1, 1] rfl ?_
            have hp5 := hp4
          case' neg =>
            rw [if_neg ho] at hout
            subst hms
            repeat (first | refine gh ho ?_ | refine gN fun _ => ?_ | refine gB fun _ => ?_ | fail)
            refine W.groupV [0, 0, 0] rfl ?_
            have hp5 := hp2
          all_goals
            subst hout
            refine aG ?_
            refine aC (o := Stop_spec _ b bp _ hm1) (h := ?_)
            rintro _ _ ⟨H', rfl, hm'⟩
            refine aG ?_
            repeat (first | refine gw ?_ | refine gN fun _ => ?_ | refine gB fun _ => ?_ | fail)
            refine W.order [0, 0, 2] rfl ?_
            refine W.ret (fin _ _ (FinOk.first 2 (aRc .nil) rfl ?_))
            exact ⟨_, _, rfl, rfl, hm', hp5⟩
  · rw [if_pos (by simpa using he)] at hout
    subst hout
    refine Ctr.enter (n := 97) [.cell 6 52] [(0, _), (1, _), (2, _)] Try.func16 rfl rfl rfl (lb rfl) Try.call16 ⟨rfl, rfl, rfl, trivial⟩ ?_
    intro cx fin fin0
    refine aG ?_
    repeat (first | refine gw ?_ | refine gN fun _ => ?_ | refine gB fun _ => ?_ | fail)
    refine aT ?_ (hb := by exact gd he)
    refine aC (o := hStop) (h := ?_)
    rintro _ _ ⟨H', rfl, hm'⟩
    refine aG ?_
    refine aC (o := hdone) (h := ?_)
    rintro _ _ ⟨rfl, rfl⟩
    refine aG ?_
    repeat (first | refine gw ?_ | refine gN fun _ => ?_ | refine gB fun _ => ?_ | fail)
    refine W.order [1, 2, 1] rfl ?_
    refine W.ret (fin _ _ (FinOk.first 2 (aRc .nil) rfl ?_))
    exact ⟨_, _, rfl, rfl, hm', hp⟩
end Go.Proofs.Ytgipjpiiomgjjaa
