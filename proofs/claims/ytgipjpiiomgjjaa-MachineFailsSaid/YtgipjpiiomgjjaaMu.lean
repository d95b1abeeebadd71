/-
  A step that fails ends the operation, and what was pinned stays so.
-/
import Derived.Test.YtgipjpiiomgjjaaMt
namespace Go.Proofs.Ytgipjpiiomgjjaa
open Go Go.Sl Go.IntWalk
set_option maxHeartbeats 8000000
set_option maxRecDepth 20000
def pinsOf (p : Pt) : List Int := p.fs.map Fr.pins
theorem map_set_eq {α β : Type} (g : α → β) (l : List α) (j : Nat) (x : α) (h : j < l.length) (e : g x = g l[j]) : (l.set j x).map g = l.map g := by
  apply List.ext_getElem
  · simp
  · intro i h1 h2
    simp only [List.getElem_map, List.getElem_set]
    split
    · rename_i h3; subst h3; exact e
    · rfl
theorem clean_fs {p : Pt} {j : Nat} (hj : j < p.fs.length) : (p.clean (j : Int)).1 = p.setF j p.fs[j].clean := by
  unfold Pt.clean
  rw [if_neg (by unfold inFr; omega), Pt.at_nat hj, Int.toNat_natCast]
theorem mStep_pins {m : Mc} {p : Pt} (h : MInv m p) (hne : m.todo ≠ []) (bs : List Int) : pinsOf (mStep m p bs).2.1 = pinsOf p := by
  unfold mStep
  split
  · rename_i hA
    obtain ⟨j, hj, hg, hpin⟩ := end_sto h hne hA
    have hcj : j < (p.clean (j : Int)).1.fs.length := by rw [clean_len]; exact hj
    have hc : pinsOf (p.clean (j : Int)).1 = pinsOf p := by
      rw [clean_fs hj]
      exact map_set_eq Fr.pins p.fs j _ hj rfl
    unfold mStored
    rw [hg, Option.getD_some]
    split
    · rename_i ho
      have h0 := hpin ho
      have hp0 : ((p.clean (j : Int)).1.at_ (j : Int)).pins = 0 := by
        rw [Pt.at_nat hj] at h0
        rw [Pt.at_nat hcj]
        simp only [clean_fs hj, Pt.setF, List.getElem_set_self]
        exact h0
      have hr := (release_fs hcj hp0).1
      rw [← hc]
      unfold pinsOf
      simp only
      rw [hr]
      refine map_set_eq Fr.pins _ j _ hcj ?_
      rw [Pt.at_nat hcj] at hp0
      exact hp0.symm
    · exact hc
  · split <;> rfl
theorem wLoop_pins {q : Rq} (hu : u8ok q.data) {s : Mc × Pt} (h : MInv s.1 s.2) : ∀ k, k < s.1.todo.length → pinsOf (wLoop q k s).2 = pinsOf s.2
  | 0, _ => rfl
  | k + 1, hk => by
    have ih := wLoop_pins hu h k (by omega)
    have hi := wLoop_inv hu h k (by omega)
    have hl := wLoop_todo q s k (by omega)
    show pinsOf (wStep (wLoop q k s).1 (wLoop q k s).2 q false).2 = _
    generalize wLoop q k s = t at *
    have hne : t.1.todo ≠ [] := by intro h0; rw [h0] at hl; simp at hl; omega
    rw [← ih, ← mStep_pins hi hne (fill q.data 16)]
    unfold wStep mEnd
    rw [if_neg hne, if_neg (by simp), if_pos]
    rw [mStep_todo, List.length_tail]
    omega
theorem mStep_part (m : Mc) (p : Pt) (bs bs' : List Int) : (mStep m p bs).2.1 = (mStep m p bs').2.1 := by
  unfold mStep
  split
  · rfl
  · split <;> rfl
theorem mStep_got0 {m : Mc} (p : Pt) (hu : u8ok m.got) : u8ok (mStep m p []).1.got := by
  unfold mStep
  split
  · exact hu
  · split
    · simpa using hu
    · exact hu
def psum (p : Pt) (i : Nat) : Int := ((pinsOf p).take i).sum
theorem psum_next {p : Pt} {i : Nat} (h : i < p.fs.length) : psum p (i + 1) = psum p i + p.fs[i].pins := by
  unfold psum
  have h2 : i < (pinsOf p).length := by unfold pinsOf; simpa using h
  rw [List.take_add_one, List.getElem?_eq_getElem h2]
  simp [pinsOf]
theorem psum_range {p : Pt} (hi : p.Inv) : ∀ i, i ≤ p.fs.length → 0 ≤ psum p i ∧ psum p i ≤ 100 * i
  | 0, _ => by simp [psum]
  | i + 1, h => by
    have := psum_range hi i (by omega)
    rw [psum_next (by omega)]
    have hg := hi.good p.fs[i] (List.getElem_mem _)
    have h1 := hg.2.1
    have h2 := hg.2.2.1
    omega
theorem psum_eq {p p' : Pt} (h : pinsOf p = pinsOf p') (i : Nat) : psum p i = psum p' i := by unfold psum; rw [h]
theorem MachineFails_spec (qs : List QD) (hqs : ∀ o ∈ qs, QD.Ok o) (a : Option Addr) (c : Nat) (ro : HL) (hro : RoSl 5 (qs.flatMap QD.l) a qs.length ro) (o1 : QD) (ho1 : o1.Ok) (x : Int) (hx : i64s x) :
    Ctr Try.prog 3 [.slice a qs.length c, .agg o1.l.toArray, .int .i64 x] [] (ro ++ (qros qs ++ o1.b.ro)) (fun v L' => v = .bool true ∧ L' = []) := by
  have hW := WBegin_spec 2 (by decide) (by decide)
  have hL := Lives_spec
  refine Ctr.enter (n := 136) [.tmp 6] [(0, _), (1, _), (2, _)] Try.func3 rfl rfl rfl (lb rfl) Try.call3 ⟨rfl, rfl, rfl, trivial⟩ ?_
  intro cx fin fin0
  refine aG ?_
  repeat (first | refine gx ?_ | refine gN fun _ => ?_ | refine gB fun _ => ?_ | fail)
  rename_i b4
  refine aC (o := hW) (h := ?_)
  rintro _ _ ⟨b, bm, bp, Hw, Hm, Hp, rfl, rfl, hw⟩
  refine aG ?_
  repeat (first | refine gx ?_ | refine gN fun _ => ?_ | refine gB fun _ => ?_ | fail)
  refine aLp (fun k ρ1 L1 => ∃ (i : Nat) (m : Mc) (p : Pt) (Hw Hm Hp : HL), i ≤ 10 ∧ MInv m p ∧ m.todo = [] ∧ p.fs.length = 2 ∧ WAt m p b bm bp Hw Hm Hp ∧ k = 10 - i ∧ ρ1 = [(8, .int .i64 (i : Int)), (7, .pointer (some ⟨b, 0, none⟩)), (4, .pointer (some ⟨b4, 0, none⟩)), (0, .slice a qs.length c), (2, .int .i64 x)] ∧ L1 = [Hw, Hm, Hp, [(b4, .cells o1.l.toArray 25 (0, 0))]]) (o := ⟨0, Mc.idle, Pt.new 2, Hw, Hm, Hp, by decide, idle_inv (Pt.new_inv (by decide) (by decide)), rfl, by simp [Pt.new], hw, rfl, rfl, rfl⟩) (h := ?_)
  clear hw
  rintro k ρ1 L1 ⟨i, m, p, Hw, Hm, Hp, hi24, hinv, ht, hpl, hw, rfl, rfl, rfl⟩
  refine aG ?_
  by_cases hc : ((i : Int) < (qs.length : Int)) ∧ (i : Int) < 10
  · obtain ⟨hc1, hc2⟩ := hc
    repeat (first | refine gx ?_ | refine gN fun _ => ?_ | refine gB fun _ => ?_ | fail)
    have hil : i < qs.length := by omega
    obtain ⟨bx, ox, lx, ex, frx, rfl, rfl, hseg, hO, hmem⟩ := row_at hqs hro hil
    generalize qs[i] = o at hseg hO hmem
    have hG := Good_spec o.q hO.inn 4 (by decide) o.b.a o.b.cap o.b.ro hO.ro
    have hq := gq_ok o.q 4 (by decide) hO.u8
    have hR := fun a' c' H' hr => Run_spec m p hinv ht b bm bp Hw Hm Hp hw (gq o.q 4) hq a' c' H' hr
    have hinv2 := wRun_inv hinv hq
    have htodo := wRun_todo m p (gq o.q 4)
    have hpl2 := wRun_len m p (gq o.q 4)
    generalize (wStep m p (gq o.q 4) false).1.todo.length = st at *
    refine aV (OpVal.ixSl tab_ok rfl rfl rfl rfl rfl hil) ?_
    refine aV (OpVal.loadN ty_25.1 ty_25.2 rfl (show At _ _ bx (.cells lx.toArray ex frx) from .inr (by simp)) hseg) ?_
    refine aC (o := hG) (h := ?_) (hro := RoIn.all (fun q hq => by simp [hmem q hq]))
    rintro _ _ ⟨a5, c5, H5, rfl, rfl, h5⟩
    refine aG ?_
    repeat (first | refine gx ?_ | refine gN fun _ => ?_ | refine gB fun _ => ?_ | fail)
    refine aC (o := hR a5 c5 H5 h5) (h := ?_) (hro := RoIn.own 0 rfl)
    rintro _ _ ⟨Hw2, Hm2, Hp2, rfl, rfl, hw2⟩
    refine aG ?_
    have hs0 : ¬ (st : Int) < 0 := by omega
    repeat (first | refine gh hs0 ?_ | refine gN fun _ => ?_ | refine gB fun _ => ?_ | fail)
    refine W.order [0, 0, 0, 1] rfl ?_
    refine aR (o := ⟨10 - (i + 1), by omega, i + 1, _, _, _, _, _, by omega, hinv2, htodo, by rw [hpl2, hpl], hw2, rfl, rfl, rfl⟩)
  · have hG := Good_spec o1.q ho1.inn 4 (by decide) o1.b.a o1.b.cap o1.b.ro ho1.ro
    have hq := gq_ok o1.q 4 (by decide) ho1.u8
    have hS := fun a' c' H' hr => Step_spec m p hinv b bm bp Hw Hm Hp hw (gq o1.q 4) hq a' c' H' hr false
    have hinv2 := wStep_inv hinv hq false
    have hpl2 := wStep_len m p (gq o1.q 4) false
    rw [hpl] at hpl2
    have hst : (wStep m p (gq o1.q 4) false).1.todo.length ≤ 4 ∨ (wStep m p (gq o1.q 4) false).1.todo.length ≤ 2 * 2 + 1 := by
      have hb := begin_todo p (gq o1.q 4) ht
      rw [hpl] at hb
      unfold wStep
      rw [if_pos ht]
      exact hb
    generalize wStep m p (gq o1.q 4) false = s at *
    have hu1 := ho1.u8
    rcases (show ¬ ((i : Int) < (qs.length : Int)) ∨ (((i : Int) < (qs.length : Int)) ∧ ¬ (i : Int) < 10) by omega) with hq1 | ⟨hq1, hq2⟩
    all_goals
      repeat (first | refine gx ?_ | refine gN fun _ => ?_ | refine gB fun _ => ?_ | fail)
      refine aC (o := hG) (h := ?_) (hro := RoIn.all (fun q hq => by simp [hq]))
      rintro _ _ ⟨a5, c5, H5, rfl, rfl, h5⟩
      refine aG ?_
      refine aC (o := hS a5 c5 H5 h5) (h := ?_) (hro := RoIn.own 0 rfl)
      rintro _ _ ⟨Hw2, Hm2, Hp2, rfl, rfl, hw2⟩
      refine aG ?_
      repeat (first | refine gx ?_ | refine gN fun _ => ?_ | refine gB fun _ => ?_ | fail)
      refine W.order [0, 0, 0, 1] rfl ?_
      have hw3 := hw2
      obtain ⟨a8, c8, r, at_, ct, rt, ag, cg, rg, D, rfl, h2, h3, h4, h5, h6, h7, h8, hm, hp⟩ := hw2
      refine split2 rfl ?_
      refine aG ?_
      by_cases hn0 : ((s.1.todo.length : Nat) : Int) = 0
      · repeat (first | refine gh hn0 ?_ | refine gN fun _ => ?_ | refine gB fun _ => ?_ | fail)
        refine aC (o := hL) (h := ?_) (hro := RoIn.nil)
        rintro _ _ ⟨rfl, rfl⟩
        refine aG ?_
        repeat (first | refine gh hn0 ?_ | refine gN fun _ => ?_ | refine gB fun _ => ?_ | fail)
        refine W.ret (fin _ _ (FinOk.mk' ([]) (.tmp rfl .nil) (by repeat (first | exact Sel.nil | (apply Sel.cons; (repeat (first | exact Pick.here | apply Pick.there))))) rfl ?_))
        exact ⟨rfl, rfl⟩
      have hpos : 0 < s.1.todo.length := by omega
      have hri := hinv2.inv
      repeat (first | refine gh hn0 ?_ | refine gN fun _ => ?_ | refine gB fun _ => ?_ | fail)
      refine aLp (fun k ρ1 L1 => ∃ j : Nat, j ≤ 2 ∧ k = 2 - j ∧ ρ1 = [(10, .int .i64 (j : Int)), (9, .int .i64 (psum s.2 j)), (7, .pointer (some ⟨b, 0, none⟩)), (4, .pointer (some ⟨b4, 0, none⟩)), (2, .int .i64 x)] ∧ L1 = [[(b, Obj.cells (List.toArray [.pointer (some ⟨bm, 0, none⟩), .pointer (some ⟨bp, 0, none⟩), .slice a8 s.2.fs.length c8, .int .i64 s.2.hand, .int .i64 s.1.op, .int .i64 s.1.page, .slice at_ s.1.todo.length ct, .int .i64 s.1.to, .slice ag s.1.got.length cg]) 40 (0, 0))], D, Hm2, Hp2, [(b4, .cells o1.l.toArray 25 (0, 0))]]) (o := ⟨0, by decide, rfl, rfl, rfl⟩) (h := ?_)
      rintro k ρ1 L1 ⟨j, hj, rfl, rfl, rfl⟩
      refine aG ?_
      by_cases hj2 : j < 2
      · have hjl : j < s.2.fs.length := by omega
        have hjz : (j : Int) < 2 := by omega
        have hps := psum_range hri j (by omega)
        have hnx := psum_next hjl
        have hps2 := psum_range hri (j + 1) (by omega)
        obtain ⟨bx2, ox2, lx2, ex2, frx2, rfl, hmem, hseg, hld⟩ := doc_at h2 hjl
        have l3 : lx2[ox2 + j * 6 + 3]? = some (.int .i64 s.2.fs[j].pins) := hld 3 (by decide)
        repeat (first | refine gh hjz ?_ | refine gN fun _ => ?_ | refine gB fun _ => ?_ | fail)
        refine aV (OpVal.ixSl tab_ok rfl rfl rfl rfl rfl hjl) ?_
        repeat (first | refine gh hjz ?_ | refine gN fun _ => ?_ | refine gB fun _ => ?_ | fail)
        refine aV (OpVal.load tab_ok rfl (show At _ _ bx2 (.cells lx2.toArray ex2 frx2) from .inl (by simp [h6 _ hmem])) l3) ?_
        refine aV (OpVal.add rfl rfl (i64_in _ (by omega))) ?_
        rw [← hnx]
        repeat (first | refine gh hjz ?_ | refine gN fun _ => ?_ | refine gB fun _ => ?_ | fail)
        refine aR (o := ⟨2 - (j + 1), by omega, j + 1, by omega, rfl, rfl, rfl⟩)
      obtain rfl : j = 2 := by omega
      have hA := Around_spec x (s.1.todo.length : Int) hx (by omega)
      have hra := around_range x (s.1.todo.length : Int) (by omega)
      obtain ⟨kk, hkk⟩ : ∃ kk : Nat, around x (s.1.todo.length : Int) = (kk : Int) := ⟨(around x (s.1.todo.length : Int)).toNat, by omega⟩
      rw [hkk] at hA hra
      repeat (first | refine gx ?_ | refine gN fun _ => ?_ | refine gB fun _ => ?_ | fail)
      refine aC (o := hA) (h := ?_) (hro := RoIn.nil)
      rintro _ _ ⟨rfl, rfl⟩
      refine aG ?_
      repeat (first | refine gx ?_ | refine gN fun _ => ?_ | refine gB fun _ => ?_ | fail)
      refine W.groupV [0, 0] rfl ?_
      refine aLp (fun k ρ1 L1 => ∃ (j : Nat) (Hw Hm Hp : HL), j ≤ kk ∧ k = kk - j ∧ WAt (wLoop o1.q j s).1 (wLoop o1.q j s).2 b bm bp Hw Hm Hp ∧ ρ1 = [(11, .int .i64 ((kk - j : Nat) : Int)), (9, .int .i64 (psum s.2 2)), (7, .pointer (some ⟨b, 0, none⟩)), (4, .pointer (some ⟨b4, 0, none⟩))] ∧ L1 = [Hw, Hm, Hp, [(b4, .cells o1.l.toArray 25 (0, 0))]]) (o := ⟨0, _, _, _, by omega, rfl, hw3, rfl, rfl⟩) (h := ?_)
      rintro k ρ1 L1 ⟨j, Hw, Hm, Hp, hj, rfl, hw, rfl, rfl⟩
      have hlen := wLoop_todo o1.q s j (by omega)
      have hi3 := wLoop_inv (q := o1.q) hu1 hinv2 j (by omega)
      refine aG ?_
      by_cases hlt : j < kk
      · have hjz : ((kk - j : Nat) : Int) > 0 := by omega
        have hne : (wLoop o1.q j s).1.todo ≠ [] := by intro h0; rw [h0] at hlen; simp at hlen; omega
        have hE := StepE_spec _ _ hi3 hne b bm bp Hw Hm Hp hw o1.q hu1 o1.b.a o1.b.cap o1.b.ro ho1.ro false
        repeat (first | refine gh hjz ?_ | refine gN fun _ => ?_ | refine gB fun _ => ?_ | fail)
        refine aC (o := hE) (h := ?_) (hro := RoIn.all (fun q hq => by simp [hq]))
        rintro _ _ ⟨Hw3, Hm3, Hp3, rfl, rfl, hw4⟩
        refine aG ?_
        repeat (first | refine gx ?_ | refine gN fun _ => ?_ | refine gB fun _ => ?_ | fail)
        rw [show ((kk - j : Nat) : Int) - 1 = ((kk - (j + 1) : Nat) : Int) by omega]
        refine aR (o := ⟨kk - (j + 1), by omega, j + 1, Hw3, Hm3, Hp3, by omega, rfl, hw4, rfl, rfl⟩)
      obtain rfl : j = kk := by omega
      have hpins := wLoop_pins (q := o1.q) hu1 hinv2 j (by omega)
      have hfl := wLoop_fs o1.q s j
      rw [hpl2] at hfl
      generalize wLoop o1.q j s = t at *
      have hpt : 0 < t.1.todo.length := by omega
      have hne : t.1.todo ≠ [] := by intro h0; rw [h0] at hpt; simp at hpt
      have hjz : ¬ ((j - j : Nat) : Int) > 0 := by omega
      obtain ⟨a9, c9, r9, at9, ct9, rt9, ag9, cg9, rg9, D9, rfl, -, -, -, -, -, -, -, hm9, hp9⟩ := hw
      refine split2 rfl ?_
      have hBu := Busy_spec t.1 bm bp Hm hm9
      have hsi : (mStep t.1 t.2 []).2.1.Inv := by
        rw [mStep_part t.1 t.2 [] z16]
        exact (mStep_inv hi3 hne z16_u8 rfl).1
      have hE := End_spec t.1 hne bm bp Hm hm9 t.2 hi3.inv Hp hp9 9 [] none 0 [] ⟨rfl, .inl ⟨rfl, rfl⟩⟩ (by have := hi3.room; simp; omega) hsi (Pt.load_inv hsi _ _ (mStep_got0 t.2 hi3.u8))
      have hme : mEnd t.1 t.2 9 [] = (Mc.idle, t.2, ⟨true, 9, false, [], ⟨0, 0, 0, 0, 0, 1⟩⟩) := by unfold mEnd; rw [if_pos (by decide)]
      rw [hme] at hE
      have hpz : ((t.1.todo.length : Nat) : Int) > 0 := by omega
      refine aG ?_
      repeat (first | refine gh hjz ?_ | refine gN fun _ => ?_ | refine gB fun _ => ?_ | fail)
      refine aC (o := hBu) (h := ?_) (hro := RoIn.own 2 rfl)
      rintro _ _ ⟨rfl, rfl⟩
      refine aG ?_
      repeat (first | refine gh hpz ?_ | refine gN fun _ => ?_ | refine gB fun _ => ?_ | fail)
      refine aC (o := hE) (h := ?_)
      rintro _ _ ⟨Hm4, Hp4, rfl, rfl, hm4, hp4⟩
      refine aG ?_
      repeat (first | refine gx ?_ | refine gN fun _ => ?_ | refine gB fun _ => ?_ | fail)
      rename_i b12
      refine aLp (fun k ρ1 L1 => ∃ j : Nat, j ≤ 2 ∧ k = 2 - j ∧ ρ1 = [(14, .int .i64 (j : Int)), (13, .int .i64 (psum t.2 j)), (12, .pointer (some ⟨b12, 0, none⟩)), (9, .int .i64 (psum s.2 2)), (7, .pointer (some ⟨b, 0, none⟩))] ∧ L1 = [[(b12, .cells #[.bool true, .int .i64 0, .int .i64 9, .bool false, .int .i64 0, .slice none 0 0, .int .u64 0, .int .u64 0, .int .u64 0, .int .u64 0, .int .u64 0, .int .u64 0, .int .u64 0, .int .u64 0, .int .u64 0, .int .u64 0, .int .u64 0, .int .u64 1] 52 (0, 0))], Hm4, Hp4, [(b, Obj.cells (List.toArray [.pointer (some ⟨bm, 0, none⟩), .pointer (some ⟨bp, 0, none⟩), .slice a9 t.2.fs.length c9, .int .i64 t.2.hand, .int .i64 t.1.op, .int .i64 t.1.page, .slice at9 t.1.todo.length ct9, .int .i64 t.1.to, .slice ag9 t.1.got.length cg9]) 40 (0, 0))]]) (o := ⟨0, by decide, rfl, rfl, rfl⟩) (h := ?_)
      rintro k ρ1 L1 ⟨j2, hj, rfl, rfl, rfl⟩
      refine aG ?_
      by_cases hj2 : j2 < 2
      · have hjl : j2 < t.2.fs.length := by omega
        have hjz2 : (j2 : Int) < 2 := by omega
        have hps := psum_range hi3.inv j2 (by omega)
        have hnx := psum_next hjl
        have hps2 := psum_range hi3.inv (j2 + 1) (by omega)
        have hAt := PAt_spec t.2 hi3.inv.ok bp Hp4 hp4 (j2 : Int)
        rw [Pt.at_nat hjl] at hAt
        generalize t.2.fs[j2] = f at *
        repeat (first | refine gh hjz2 ?_ | refine gN fun _ => ?_ | refine gB fun _ => ?_ | fail)
        refine aC (o := hAt) (h := ?_) (hro := RoIn.own 2 rfl)
        rintro _ _ ⟨rfl, rfl⟩
        refine aG ?_
        refine aV (OpVal.fieldN (fs := Try.prog.fieldsOf 58) rfl (by kernel_rfl) rfl rfl ty_55.1 ty_55.2 rfl) ?_
        refine aV (OpVal.field1 (fs := Try.prog.fieldsOf 55) rfl (by kernel_rfl) rfl rfl ty_3.1 rfl) ?_
        refine aV (OpVal.add rfl rfl (i64_in _ (by omega))) ?_
        rw [← hnx]
        repeat (first | refine gh hjz2 ?_ | refine gN fun _ => ?_ | refine gB fun _ => ?_ | fail)
        refine aR (o := ⟨2 - (j2 + 1), by omega, j2 + 1, by omega, rfl, rfl, rfl⟩)
      obtain rfl : j2 = 2 := by omega
      rw [psum_eq hpins 2]
      repeat (first | refine gx ?_ | refine gN fun _ => ?_ | refine gB fun _ => ?_ | fail)
      refine aBu (ps := [_]) ?_
      repeat (first | refine gx ?_ | refine gN fun _ => ?_ | refine gB fun _ => ?_ | fail)
      refine aV (eqC ⟨0, 0, 0, 0, 0, 1⟩ rfl rfl) ?_
      repeat (first | refine gx ?_ | refine gN fun _ => ?_ | refine gB fun _ => ?_ | fail)
      refine aC (o := Busy_spec Mc.idle bm bp Hm4 hm4) (h := ?_) (hro := RoIn.own 1 rfl)
      rintro _ _ ⟨rfl, rfl⟩
      refine aG ?_
      repeat (first | refine gx ?_ | refine gN fun _ => ?_ | refine gB fun _ => ?_ | fail)
      refine aC (o := hL) (h := ?_) (hro := RoIn.nil)
      rintro _ _ ⟨rfl, rfl⟩
      refine aG ?_
      repeat (first | refine gx ?_ | refine gN fun _ => ?_ | refine gB fun _ => ?_ | fail)
      refine W.ret (fin _ _ (FinOk.mk' ([]) (.tmp rfl .nil) (by repeat (first | exact Sel.nil | (apply Sel.cons; (repeat (first | exact Pick.here | apply Pick.there))))) rfl ?_))
      exact ⟨rfl, rfl⟩
end Go.Proofs.Ytgipjpiiomgjjaa
