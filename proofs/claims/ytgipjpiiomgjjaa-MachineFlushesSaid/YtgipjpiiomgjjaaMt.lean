/-
  An operation takes at most as many steps as Most tells; behind Stop it begins anew.
-/
import Derived.Test.YtgipjpiiomgjjaaMs
namespace Go.Proofs.Ytgipjpiiomgjjaa
open Go Go.Sl Go.IntWalk
set_option maxHeartbeats 8000000
set_option maxRecDepth 20000
theorem _root_.Go.Sl.OpVal.maxI {P : Program} {n : Nat} {R : HL} {cx : Cx} {ρ : Env} {L : List HL} {t1 t2 ty : TypeId} {x y : Operand} {kk : IntKind} {i j : Int} (hx : ev? ρ x = some (.int kk i)) (hy : ev? ρ y = some (.int kk j)) :
    OpVal P n R cx (.call ⟨.builtin .max, #[x, y], #[t1, t2]⟩) ty ρ L (.int kk (if i < j then j else i)) := by
  have := OpVal.max2 (P := P) (n := n) (R := R) (cx := cx) (L := L) (t1 := t1) (t2 := t2) (ty := ty) hx hy
  split <;> rename_i h <;> simp only [h, if_true, if_false] at this <;> exact this
theorem map_set_eq {α β : Type} (g : α → β) (l : List α) (j : Nat) (x : α) (h : j < l.length) (e : g x = g l[j]) : (l.set j x).map g = l.map g := by
  apply List.ext_getElem
  · simp
  · intro i h1 h2
    simp only [List.getElem_map, List.getElem_set]
    split
    · rename_i h3; subst h3; exact e
    · rfl
theorem clean_fs {p : Pt} {j : Nat} (hj : j < p.fs.length) : (p.clean (j : Int)).1 = p.setF j p.fs[j].clean := by
  unfold Pt.clean
  rw [if_neg (by unfold inFr; omega), Pt.at_nat hj, Int.toNat_natCast]
/-- The row of requests ahead, one of it. -/
theorem row_at {qs : List QD} (hqs : ∀ o ∈ qs, QD.Ok o) {a : Option Addr} {ro : HL} (hro : RoSl 5 (qs.flatMap QD.l) a qs.length ro) {i : Nat} (hil : i < qs.length) :
    ∃ bx ox lx ex frx, a = some ⟨bx, ox, none⟩ ∧ ro = [(bx, Obj.cells (List.toArray lx) ex frx)] ∧ seg? lx (ox + i * 5) 5 = some qs[i].l ∧ QD.Ok qs[i] ∧ (∀ q ∈ qs[i].b.ro, q ∈ qros qs) := by
  obtain ⟨bx, ox, lx, ex, frx, h1, h2, hseg, -⟩ := RoSl.at (f := QD.l) (fun _ => rfl) hro hil
  exact ⟨bx, ox, lx, ex, frx, h1, h2, hseg, hqs _ (List.getElem_mem hil), fun q hq => List.mem_flatMap.2 ⟨_, List.getElem_mem hil, hq⟩⟩
theorem MachineMost_spec (n : Int) (hn : i64s n) (qs : List QD) (hqs : ∀ o ∈ qs, QD.Ok o) (a : Option Addr) (c : Nat) (ro : HL) (hro : RoSl 5 (qs.flatMap QD.l) a qs.length ro) :
    Ctr Try.prog 6 [.int .i64 n, .slice a qs.length c] [] (ro ++ qros qs) (fun v L' => v = .bool true ∧ L' = []) := by
  have rn := around_range n 4 (by decide)
  obtain ⟨kk, hkk⟩ : ∃ kk : Nat, 1 + around n 4 = (kk : Int) := ⟨(1 + around n 4).toNat, by omega⟩
  have hk1 : 1 ≤ kk := by omega
  have hk4 : kk ≤ 64 := by omega
  have hA := Around_spec n 4 hn (by decide)
  have hW := WBegin_spec kk hk1 hk4
  have hL := Lives_spec
  refine Ctr.enter (n := 56) [.tmp 4] [(0, _), (1, _)] Try.func6 rfl rfl rfl (lb rfl) Try.call6 ⟨rfl, rfl, trivial⟩ ?_
  intro cx fin fin0
  refine aG ?_
  repeat (first | refine gx ?_ | refine gN fun _ => ?_ | refine gB fun _ => ?_ | fail)
  refine aC (o := hA) (h := ?_)
  rintro _ _ ⟨rfl, rfl⟩
  refine aG ?_
  refine aV (OpVal.add rfl rfl (i64_in _ (by omega))) ?_
  rw [hkk]
  refine aC (o := hW) (h := ?_)
  rintro _ _ ⟨b, bm, bp, Hw, Hm, Hp, rfl, rfl, hw⟩
  refine aG ?_
  repeat (first | refine gx ?_ | refine gN fun _ => ?_ | refine gB fun _ => ?_ | fail)
  refine aLp (fun k ρ1 L1 => ∃ (i : Nat) (m : Mc) (p : Pt) (Hw Hm Hp : HL), i ≤ 14 ∧ MInv m p ∧ m.todo = [] ∧ p.fs.length = kk ∧ WAt m p b bm bp Hw Hm Hp ∧ k = 14 - i ∧ ρ1 = [(7, .int .i64 (i : Int)), (6, .pointer (some ⟨b, 0, none⟩)), (5, .int .i64 (kk : Int)), (1, .slice a qs.length c)] ∧ L1 = [Hw, Hm, Hp]) (o := ⟨0, Mc.idle, Pt.new kk, Hw, Hm, Hp, by decide, idle_inv (Pt.new_inv hk1 hk4), rfl, by simp [Pt.new], hw, rfl, rfl, rfl⟩) (h := ?_)
  clear hw
  rintro k ρ1 L1 ⟨i, m, p, Hw, Hm, Hp, hi24, hinv, ht, hpl, hw, rfl, rfl, rfl⟩
  refine aG ?_
  by_cases hc : ((i : Int) < (qs.length : Int)) ∧ (i : Int) < 14
  · obtain ⟨hc1, hc2⟩ := hc
    repeat (first | refine gx ?_ | refine gN fun _ => ?_ | refine gB fun _ => ?_ | fail)
    have hil : i < qs.length := by omega
    obtain ⟨bx, ox, lx, ex, frx, rfl, rfl, hseg, hO, hmem⟩ := row_at hqs hro hil
    generalize qs[i] = o at hseg hO hmem
    have hG := Good_spec o.q hO.inn 6 (by decide) o.b.a o.b.cap o.b.ro hO.ro
    have hq := gq_ok o.q 6 (by decide) hO.u8
    have hR := fun a' c' H' hr => Run_spec m p hinv ht b bm bp Hw Hm Hp hw (gq o.q 6) hq a' c' H' hr
    have hst : (wStep m p (gq o.q 6) false).1.todo.length ≤ 4 ∨ (wStep m p (gq o.q 6) false).1.todo.length ≤ 2 * kk + 1 := by
      unfold wStep
      rw [if_pos ht, ← hpl]
      exact begin_todo _ _ ht
    have hinv2 := wRun_inv hinv hq
    have htodo := wRun_todo m p (gq o.q 6)
    have hpl2 := wRun_len m p (gq o.q 6)
    generalize (wStep m p (gq o.q 6) false).1.todo.length = st at *
    refine aV (OpVal.ixSl tab_ok rfl rfl rfl rfl rfl hil) ?_
    refine aV (OpVal.loadN ty_25.1 ty_25.2 rfl (show At _ _ bx (.cells lx.toArray ex frx) from .inr (by simp)) hseg) ?_
    refine aC (o := hG) (h := ?_) (hro := RoIn.all (fun q hq => by simp [hmem q hq]))
    rintro _ _ ⟨a5, c5, H5, rfl, rfl, h5⟩
    refine aG ?_
    repeat (first | refine gx ?_ | refine gN fun _ => ?_ | refine gB fun _ => ?_ | fail)
    refine aC (o := hR a5 c5 H5 h5) (h := ?_) (hro := RoIn.own 0 rfl)
    rintro _ _ ⟨Hw2, Hm2, Hp2, rfl, rfl, hw2⟩
    refine aG ?_
    have hK := Like_spec _ _ hinv2 b bm bp Hw2 Hm2 Hp2 hw2
    have hw3 := hw2
    generalize wRun m p (gq o.q 6) = s at *
    obtain ⟨a, c, r, at_, ct, rt, ag, cg, rg, D, rfl, h2, h3, h4, h5, h6, h7, h8, hm, hp⟩ := hw2
    have hBu := Busy_spec s.1 bm bp Hm2 hm
    rw [htodo] at hBu
    refine split2 rfl ?_
    refine aG ?_
    have hs0 : ¬ (st : Int) < 0 := by omega
    repeat (first | refine gh hs0 ?_ | refine gN fun _ => ?_ | refine gB fun _ => ?_ | fail)
    refine aV (OpVal.mul rfl rfl (i64_in _ (by omega))) ?_
    repeat (first | refine gh hs0 ?_ | refine gN fun _ => ?_ | refine gB fun _ => ?_ | fail)
    refine aV (OpVal.maxI rfl rfl) ?_
    have hs1 : ¬ (st : Int) > (if (4 : Int) < 2 * (kk : Int) + 1 then 2 * (kk : Int) + 1 else 4) := by split <;> omega
    repeat (first | refine gh (gc2 hs0 hs1) ?_ | refine gN fun _ => ?_ | refine gB fun _ => ?_ | fail)
    refine aC (o := hBu) (h := ?_) (hro := RoIn.own 2 rfl)
    rintro _ _ ⟨rfl, rfl⟩
    refine aG ?_
    repeat (first | refine gx ?_ | refine gN fun _ => ?_ | refine gB fun _ => ?_ | fail)
    refine aC (o := hK) (h := ?_) (hro := RoIn.append (RoIn.append (RoIn.own 0 rfl) (RoIn.own 1 rfl)) (RoIn.append (RoIn.own 2 rfl) (RoIn.own 3 rfl)))
    rintro _ _ ⟨rfl, rfl⟩
    refine aG ?_
    repeat (first | refine gx ?_ | refine gN fun _ => ?_ | refine gB fun _ => ?_ | fail)
    refine W.groupV [0, 0] rfl ?_
    refine W.order [0, 0, 0] rfl ?_
    refine aR (o := ⟨14 - (i + 1), by omega, i + 1, _, _, _, _, _, by omega, hinv2, htodo, by rw [hpl2, hpl], hw3, rfl, rfl, rfl⟩)
  · rcases (show ¬ ((i : Int) < (qs.length : Int)) ∨ (((i : Int) < (qs.length : Int)) ∧ ¬ (i : Int) < 14) by omega) with hx | ⟨hx1, hx2⟩
    all_goals
      repeat (first | refine gx ?_ | refine gN fun _ => ?_ | refine gB fun _ => ?_ | fail)
      refine W.order [0] rfl ?_
      refine aC (o := hL) (h := ?_) (hro := RoIn.nil)
      rintro _ _ ⟨rfl, rfl⟩
      refine aG ?_
      repeat (first | refine gx ?_ | refine gN fun _ => ?_ | refine gB fun _ => ?_ | fail)
      refine W.ret (fin _ _ (FinOk.mk' ([]) (.tmp rfl .nil) (by repeat (first | exact Sel.nil | (apply Sel.cons; (repeat (first | exact Pick.here | apply Pick.there))))) rfl ?_))
      exact ⟨rfl, rfl⟩
theorem MachineStops_spec (qs : List QD) (hqs : ∀ o ∈ qs, QD.Ok o) (a : Option Addr) (c : Nat) (ro : HL) (hro : RoSl 5 (qs.flatMap QD.l) a qs.length ro) (n : Int) (hn : i64s n) :
    Ctr Try.prog 7 [.slice a qs.length c, .int .i64 n] [] (ro ++ qros qs) (fun v L' => v = .bool true ∧ L' = []) := by
  have rn := around_range n 4 (by decide)
  have hA := Around_spec n 4 hn (by decide)
  have hW := WBegin_spec 2 (by decide) (by decide)
  have hL := Lives_spec
  refine Ctr.enter (n := 58) [.tmp 4] [(0, _), (1, _)] Try.func7 rfl rfl rfl (lb rfl) Try.call7 ⟨rfl, rfl, trivial⟩ ?_
  intro cx fin fin0
  refine aG ?_
  repeat (first | refine gx ?_ | refine gN fun _ => ?_ | refine gB fun _ => ?_ | fail)
  refine aC (o := hW) (h := ?_)
  rintro _ _ ⟨b, bm, bp, Hw, Hm, Hp, rfl, rfl, hw⟩
  refine aG ?_
  repeat (first | refine gx ?_ | refine gN fun _ => ?_ | refine gB fun _ => ?_ | fail)
  refine aLp (fun k ρ1 L1 => ∃ (i : Nat) (m : Mc) (p : Pt) (Hw Hm Hp : HL), i ≤ 12 ∧ MInv m p ∧ WAt m p b bm bp Hw Hm Hp ∧ k = 12 - i ∧ ρ1 = [(6, .int .i64 (i : Int)), (5, .pointer (some ⟨b, 0, none⟩)), (0, .slice a qs.length c), (1, .int .i64 n)] ∧ L1 = [Hw, Hm, Hp]) (o := ⟨0, Mc.idle, Pt.new 2, Hw, Hm, Hp, by decide, idle_inv (Pt.new_inv (by decide) (by decide)), hw, rfl, rfl, rfl⟩) (h := ?_)
  clear hw
  rintro k ρ1 L1 ⟨i, m, p, Hw, Hm, Hp, hi24, hinv, hw, rfl, rfl, rfl⟩
  refine aG ?_
  by_cases hc : ((i : Int) < (qs.length : Int)) ∧ (i : Int) < 12
  · obtain ⟨hc1, hc2⟩ := hc
    repeat (first | refine gx ?_ | refine gN fun _ => ?_ | refine gB fun _ => ?_ | fail)
    have hil : i < qs.length := by omega
    obtain ⟨bx, ox, lx, ex, frx, rfl, rfl, hseg, hO, hmem⟩ := row_at hqs hro hil
    generalize qs[i] = o at hseg hO hmem
    have hG := Good_spec o.q hO.inn 4 (by decide) o.b.a o.b.cap o.b.ro hO.ro
    have hq := gq_ok o.q 4 (by decide) hO.u8
    have hS := fun a' c' H' hr => Step_spec m p hinv b bm bp Hw Hm Hp hw (gq o.q 4) hq a' c' H' hr false
    have hinv2 := wStep_inv hinv hq false
    refine aV (OpVal.ixSl tab_ok rfl rfl rfl rfl rfl hil) ?_
    refine aV (OpVal.loadN ty_25.1 ty_25.2 rfl (show At _ _ bx (.cells lx.toArray ex frx) from .inr (by simp)) hseg) ?_
    refine aC (o := hG) (h := ?_) (hro := RoIn.all (fun q hq => by simp [hmem q hq]))
    rintro _ _ ⟨a5, c5, H5, rfl, rfl, h5⟩
    refine aG ?_
    repeat (first | refine gx ?_ | refine gN fun _ => ?_ | refine gB fun _ => ?_ | fail)
    refine aC (o := hS a5 c5 H5 h5) (h := ?_) (hro := RoIn.own 0 rfl)
    rintro _ _ ⟨Hw2, Hm2, Hp2, rfl, rfl, hw2⟩
    refine aG ?_
    repeat (first | refine gx ?_ | refine gN fun _ => ?_ | refine gB fun _ => ?_ | fail)
    refine W.order [0, 0, 0] rfl ?_
    refine aR (o := ⟨12 - (i + 1), by omega, i + 1, _, _, _, _, _, by omega, hinv2, hw2, rfl, rfl, rfl⟩)
  · have i0 : MInv Mc.idle p := idle_inv hinv.inv
    have hq : (⟨1, around n 4, 0, 0, []⟩ : Rq).Ok := rq_ok (by decide) rn.1 ⟨by decide, by decide⟩ ⟨by decide, by decide⟩ nil_u8 (by decide)
    obtain ⟨a, c, r, at_, ct, rt, ag, cg, rg, D, rfl, h2, h3, h4, h5, h6, h7, h8, hm, hp⟩ := hw
    have hSt := Stop_spec m bm bp Hm hm
    rcases (show ¬ ((i : Int) < (qs.length : Int)) ∨ (((i : Int) < (qs.length : Int)) ∧ ¬ (i : Int) < 12) by omega) with hx | ⟨hx1, hx2⟩
    all_goals
      refine split2 rfl ?_
      refine aG ?_
      repeat (first | refine gx ?_ | refine gN fun _ => ?_ | refine gB fun _ => ?_ | fail)
      refine aC (o := hSt) (h := ?_)
      rintro _ _ ⟨Hm2, rfl, hm2⟩
      refine aG ?_
      repeat (first | refine gx ?_ | refine gN fun _ => ?_ | refine gB fun _ => ?_ | fail)
      refine aBu (ps := [_]) ?_
      repeat (first | refine gx ?_ | refine gN fun _ => ?_ | refine gB fun _ => ?_ | fail)
      refine W.order [1, 1, 0, 0] rfl ?_
      refine W.groupV [0, 0] rfl ?_
      have hw2 : WAt Mc.idle p b bm bp _ Hm2 Hp := ⟨a, c, r, none, 0, [], none, 0, [], D, rfl, h2, ⟨rfl, .inl ⟨rfl, rfl⟩⟩, ⟨rfl, .inl ⟨rfl, rfl⟩⟩, Nat.le_refl _, h6, (fun _ h => by cases h), (fun _ h => by cases h), hm2, hp⟩
      refine aC (o := Like_spec _ _ i0 b bm bp _ Hm2 Hp hw2) (h := ?_) (hro := RoIn.append (RoIn.own 0 rfl) (RoIn.append (RoIn.own 1 rfl) (RoIn.own 2 rfl)))
      rintro _ _ ⟨rfl, rfl⟩
      refine aG ?_
      repeat (first | refine gx ?_ | refine gN fun _ => ?_ | refine gB fun _ => ?_ | fail)
      refine aC (o := hA) (h := ?_)
      rintro _ _ ⟨rfl, rfl⟩
      refine aG ?_
      refine aBu (ps := [_, _]) ?_
      refine aC (o := Run_spec Mc.idle p i0 rfl b bm bp _ Hm2 Hp hw2 ⟨1, around n 4, 0, 0, []⟩ hq none 0 [] ⟨rfl, .inl ⟨rfl, rfl⟩⟩) (h := ?_)
      rintro _ _ ⟨Hw3, Hm3, Hp3, rfl, rfl, hw3⟩
      refine aG ?_
      have hge : ((wStep Mc.idle p ⟨1, around n 4, 0, 0, []⟩ false).1.todo.length : Int) ≥ 0 := by omega
      repeat (first | refine gh hge ?_ | refine gN fun _ => ?_ | refine gB fun _ => ?_ | fail)
      refine aC (o := Like_spec _ _ (wRun_inv i0 hq) b bm bp _ _ _ hw3) (h := ?_) (hro := RoIn.append (RoIn.own 0 rfl) (RoIn.append (RoIn.own 1 rfl) (RoIn.own 2 rfl)))
      rintro _ _ ⟨rfl, rfl⟩
      refine aG ?_
      repeat (first | refine gh hge ?_ | refine gN fun _ => ?_ | refine gB fun _ => ?_ | fail)
      refine aC (o := hL) (h := ?_) (hro := RoIn.nil)
      rintro _ _ ⟨rfl, rfl⟩
      refine aG ?_
      repeat (first | refine gh hge ?_ | refine gN fun _ => ?_ | refine gB fun _ => ?_ | fail)
      refine W.ret (fin _ _ (FinOk.mk' ([]) (.tmp rfl .nil) (by repeat (first | exact Sel.nil | (apply Sel.cons; (repeat (first | exact Pick.here | apply Pick.there))))) rfl ?_))
      exact ⟨rfl, rfl⟩
end Go.Proofs.Ytgipjpiiomgjjaa
