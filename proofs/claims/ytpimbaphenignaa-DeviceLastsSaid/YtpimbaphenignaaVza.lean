/-
  What was written is read; what lasts.
-/
import Derived.Test.YtpimbaphenignaaVy
namespace Go.Proofs.Ytpimbaphenignaa
open Go Go.Sl Go.IntWalk
set_option maxHeartbeats 8000000
set_option maxRecDepth 20000
set_option linter.unusedVariables false
theorem _root_.Go.Sl.OpVal.maxI {P : Program} {n : Nat} {R : HL} {cx : Cx} {ρ : Env} {L : List HL} {t1 t2 ty : TypeId} {x y : Operand} {kk : IntKind} {i j : Int} (hx : ev? ρ x = some (.int kk i)) (hy : ev? ρ y = some (.int kk j)) (h : ¬ i < j) :
    OpVal P n R cx (.call ⟨.builtin .max, #[x, y], #[t1, t2]⟩) ty ρ L (.int kk i) := by
  have := OpVal.max2 (P := P) (n := n) (R := R) (cx := cx) (L := L) (t1 := t1) (t2 := t2) (ty := ty) hx hy
  rwa [if_neg h] at this
theorem _root_.Go.Sl.OpVal.minL {P : Program} {n : Nat} {R : HL} {cx : Cx} {ρ : Env} {L : List HL} {t1 t2 ty : TypeId} {x y : Operand} {kk k2 : IntKind} {i j : Int} (hx : ev? ρ x = some (.int kk i)) (hy : ev? ρ y = some (.int k2 j)) (h : ¬ j < i) :
    OpVal P n R cx (.call ⟨.builtin .min, #[x, y], #[t1, t2]⟩) ty ρ L (.int kk i) := by
  have := OpVal.min2 (P := P) (n := n) (R := R) (cx := cx) (L := L) (t1 := t1) (t2 := t2) (ty := ty) hx hy
  rwa [if_neg h] at this
theorem clsV_map (l : List Cl) : clsV l = l.map Cl.v := by
  unfold clsV
  induction l with
  | nil => rfl
  | cons x l ih => simp [ih]
theorem clsV_set (l : List Cl) (j : Nat) (c : Cl) : (clsV l).set j c.v = clsV (l.set j c) := by rw [clsV_map, clsV_map, List.map_set]
theorem clsV_get {l : List Cl} {j : Nat} (h : j < l.length) : (clsV l)[0 + j * 1]? = some (Cl.v l[j]) := by
  rw [clsV_map, Nat.mul_one, Nat.zero_add, List.getElem?_map, List.getElem?_eq_getElem h]
  rfl
theorem DeviceLasts_spec (os : List OD) (hos : ∀ o ∈ os, OD.Ok o) (ao : Option Addr) (co : Nat) (roo : HL) (hroo : RoSl 5 (os.flatMap OD.l) ao os.length roo) (bar : Bool)
    (keep : List Bool) (hkl : keep.length ≤ 140737488351232) (ak : Option Addr) (ck : Nat) (rk : HL) (hrk : RoSl 1 (bls keep) ak keep.length rk) :
    Ctr Try.prog 3 [.slice ao os.length co, .bool bar, .slice ak keep.length ck] [] (roo ++ (ros os ++ rk)) (fun v L' => v = .bool true ∧ L' = []) := by
  have hN := DNew_spec 6
  have hS := SNew_spec keep hkl ak ck rk hrk
  have e9 : repL 6 [Value.slice none 0 0] = clsV (List.replicate 6 ⟨none, 0, []⟩) := rfl
  have e16 : repL 16 [Value.int .u8 0] = u8s (List.replicate 16 0) := rfl
  have x0 : XsOk (List.replicate 6 []) := ⟨by simp, fun x hx => .inl (List.eq_of_mem_replicate hx)⟩
  have d0 : dvL (List.replicate 6 []) = Dv.new 6 := rfl
  refine Ctr.enter (n := 170) [.tmp 6] [(0, _), (1, _), (2, _)] Try.func3 rfl rfl rfl (lb rfl) Try.call3 ⟨rfl, rfl, rfl, trivial⟩ ?_
  intro cx fin fin0
  refine aG ?_
  repeat (first | refine gx ?_ | refine gN fun _ => ?_ | refine gB fun _ => ?_ | fail)
  refine aC (o := hN) (h := ?_)
  rintro _ _ (⟨h, rfl, rfl⟩ | ⟨_, b, H, rfl, rfl, h0⟩)
  · exact absurd (by omega) h
  rw [show (6 : Int).toNat = 6 from rfl, ← d0] at h0
  refine aG ?_
  repeat (first | refine gx ?_ | refine gN fun _ => ?_ | refine gB fun _ => ?_ | fail)
  refine aW (NewOf.mks (bytes := 24) (len := 6) (cap := 6) tab_ok rfl rfl rfl rfl rfl rfl rfl rfl rfl (Nat.le_refl _) (by decide) (by decide)) ?_
  intro b9
  rw [e9]
  refine aG ?_
  repeat (first | refine gx ?_ | refine gN fun _ => ?_ | refine gB fun _ => ?_ | fail)
  refine W.nilChunk ?_
  refine aLp (fun m ρ1 L1 => ∃ (i : Nat) (xs : List (List Int)) (cls : List Cl) (H HD : HL), i ≤ 6 ∧ XsOk xs ∧ cls.map Cl.xs = xs ∧ (∀ c ∈ cls, ClIn HD c) ∧ DevAt (dvL xs) b H ∧ m = 6 - i ∧ ρ1 = [(10, .int .i64 (i : Int)), (9, .slice (some ⟨b9, 0, none⟩) 6 6), (7, .pointer (some ⟨b, 0, none⟩)), (0, .slice ao os.length co), (1, .bool bar), (2, .slice ak keep.length ck)] ∧ L1 = [[(b9, .cells (clsV cls).toArray 30 (0, 0))], H, HD]) (o := ⟨0, _, List.replicate 6 ⟨none, 0, []⟩, H, [], by decide, x0, by simp, fun c hc => by rw [List.eq_of_mem_replicate hc]; exact nil_in _, h0, rfl, rfl, rfl⟩) (h := ?_)
  clear h0 x0 d0
  rintro m ρ1 L1 ⟨i, xs, cls, H, HD, hi6, hxs, hcx, hcl, h, rfl, rfl, rfl⟩
  have hc6 : cls.length = 6 := by have := congrArg List.length hcx; rw [List.length_map, hxs.len] at this; exact this
  refine aG ?_
  by_cases hc : ((i : Int) < (os.length : Int)) ∧ (i : Int) < 6
  · obtain ⟨hc1, hc2⟩ := hc
    have hil : i < os.length := by omega
    obtain ⟨bx, ox, lx, ex, frx, rfl, rfl, hseg, hld⟩ := RoSl.at (f := OD.l) (m := 5) (fun _ => rfl) hroo hil
    have hO := hos _ (List.getElem_mem hil)
    have hmem : ∀ q ∈ os[i].ro_, q ∈ ros os := fun q hq => List.mem_flatMap.2 ⟨_, List.getElem_mem hil, hq⟩
    generalize os[i] = o at hseg hO hmem hld
    have l1 : lx[ox + i * 5 + 1]? = some (.int .i64 o.at_) := hld 1 (by decide)
    have l3 : lx[ox + i * 5 + 3]? = some (.slice o.b.a o.b.xs.length o.b.cap) := hld 3 (by decide)
    have hA := Around_spec o.at_ 6 hO.at_ (by decide)
    have rA := around_range o.at_ 6 (by decide)
    obtain ⟨j, hj⟩ : ∃ j : Nat, around o.at_ 6 = (j : Int) := ⟨(around o.at_ 6).toNat, by omega⟩
    rw [hj] at hA rA
    have hj6 : j < 6 := by omega
    have hFi := Fill_spec o.b.xs o.b.a o.b.cap o.b.ro hO.ro 16 (by decide) (by decide)
    have hou := fill_ok hO.u8 16
    have hol := fill_len o.b.xs 16
    rw [show (16 : Int).toNat = 16 from rfl] at hFi
    generalize fill o.b.xs 16 = own at *
    have hW := fun a c r hr => DWrite_spec _ (dvL_ok hxs) b H h j own hou a c r hr
    rw [dvL_write hxs hj6 hol] at hW
    simp only [hol] at hW
    have hx2 := hxs.set j hol hou
    have hrd : (dvL (xs.set j own)).read j = (own, 0) := by
      have hl := dvL_late (xs := xs.set j own) (j := j) (by rw [List.length_set, hxs.len]; exact hj6)
      rw [List.getElem_set_self] at hl
      have hne : lateOf own = sealB own := by unfold lateOf; rw [if_neg (fun h0 => by rw [h0] at hol; cases hol)]
      unfold Dv.read
      rw [if_pos ⟨by omega, by show (j : Int) < ((List.replicate 6 zcell).length : Int); simp; omega⟩, hl, hne, if_neg (sealB_ne _), cOpen_seal hol]
    have hR := fun H h => DRead_spec _ (dvL_ok hx2) b H h j
    rw [hrd] at hR
    unfold TwoOwn at hR
    simp only [hol] at hR
    repeat (first | refine gx ?_ | refine gN fun _ => ?_ | refine gB fun _ => ?_ | fail)
    refine aV (OpVal.ixSl tab_ok rfl rfl rfl rfl rfl hil) ?_
    repeat (first | refine gx ?_ | refine gN fun _ => ?_ | refine gB fun _ => ?_ | fail)
    refine aV (OpVal.load tab_ok rfl (show At _ _ bx (.cells lx.toArray ex frx) from .inr (by simp)) l1) ?_
    refine aC (o := hA) (h := ?_) (hro := RoIn.nil)
    rintro _ _ ⟨rfl, rfl⟩
    refine aG ?_
    repeat (first | refine gx ?_ | refine gN fun _ => ?_ | refine gB fun _ => ?_ | fail)
    refine aV (OpVal.ixSl tab_ok rfl rfl rfl rfl rfl hil) ?_
    repeat (first | refine gx ?_ | refine gN fun _ => ?_ | refine gB fun _ => ?_ | fail)
    refine aV (OpVal.load tab_ok rfl (show At _ _ bx (.cells lx.toArray ex frx) from .inr (by simp)) l3) ?_
    refine aC (o := hFi) (h := ?_) (hro := RoIn.all (fun q hq => List.mem_append_right _ (List.mem_append_left _ (hmem q (List.mem_append_left _ hq)))))
    rintro _ _ ⟨a1, c1, O1, rfl, rfl, ho1⟩
    refine aG ?_
    have hj9 : j < (clsV cls).length := by rw [clsV_len, hc6]; omega
    have hv1 : Cl.v ⟨a1, c1, own⟩ = .slice a1 16 c1 := by unfold Cl.v; rw [hol]
    have e1 : (clsV cls).set j (.slice a1 16 c1) = clsV (cls.set j ⟨a1, c1, own⟩) := by rw [← hv1, clsV_set]
    have lj : (clsV (cls.set j ⟨a1, c1, own⟩))[0 + j * 1]? = some (.slice a1 16 c1) := by
      have := clsV_get (l := cls.set j ⟨a1, c1, own⟩) (j := j) (by rw [List.length_set, hc6]; exact hj6)
      rw [List.getElem_set_self, hv1] at this
      exact this
    have hcl2 : ∀ c ∈ cls.set j ⟨a1, c1, own⟩, ClIn (O1 ++ HD) c := fun c hc => by
      rcases List.mem_or_eq_of_mem_set hc with h1 | rfl
      · exact (hcl c h1).mono fun q hq => List.mem_append_right _ hq
      · exact ⟨by rcases ho1.2 with ⟨_, h0, _⟩ | ⟨_, _, _, _, h0, _⟩ <;> (show own.length ≤ c1; omega), O1, by have := Own.roSl ho1; rw [← hol] at this; exact this, fun q hq => List.mem_append_left _ hq⟩
    have hcx2 : (cls.set j ⟨a1, c1, own⟩).map Cl.xs = xs.set j own := by rw [List.map_set, hcx]
    repeat (first | refine gx ?_ | refine gN fun _ => ?_ | refine gB fun _ => ?_ | fail)
    refine aV (OpVal.ixI (j := j) tab_ok rfl rfl rfl rfl rfl hj6) ?_
    refine W.store tab_ok rfl (Upd.there Upd.here) rfl rfl rfl rfl rfl (splice_set hj9 _) (aG ?_)
    rw [e1]
    repeat (first | refine gx ?_ | refine gN fun _ => ?_ | refine gB fun _ => ?_ | fail)
    refine aV (OpVal.ixI (j := j) tab_ok rfl rfl rfl rfl rfl hj6) ?_
    refine aV (OpVal.load tab_ok rfl (at_own 1 rfl) lj) ?_
    refine aC (o := hW a1 c1 O1 (Own.roSl ho1)) (h := ?_) (hro := RoIn.own 0 rfl)
    rintro _ _ ⟨H2, rfl, rfl, hd2⟩
    refine aG ?_
    repeat (first | refine gx ?_ | refine gN fun _ => ?_ | refine gB fun _ => ?_ | fail)
    refine aC (o := hR H2 hd2) (h := ?_) (hro := RoIn.own 0 rfl)
    rintro _ _ ⟨a2, c2, O2, rfl, rfl, ho2⟩
    refine aG ?_
    repeat (first | refine gx ?_ | refine gN fun _ => ?_ | refine gB fun _ => ?_ | fail)
    refine W.drawH tab_ok 12 [.b false, .b false, .b false, .b false, .b false, .b false, .b false, .b false, .b false, .b false, .b false, .b false] [] follows (by decide +kernel) (by decide +kernel) rfl (by decide) rfl ?_
    intro _
    refine dG ?_
    repeat (first | refine dL ?_ | refine dS ?_ | (first | refine dGo ?_ | refine dSk ?_ | refine dUn ?_ | fail) | (first | refine dPT ?_ | refine dPF ?_ | fail) | refine dV (OpVal.add rfl rfl (i64_in _ (by omega))) ?_ | refine dV (OpVal.sub rfl rfl (i64_in _ (by omega))) ?_ | refine dV (OpVal.neBool tab_ok rfl rfl rfl) ?_ | refine dV (OpVal.eqBool tab_ok rfl rfl rfl) ?_ | refine dV (OpVal.eqNil tab_ok rfl rfl rfl) ?_ | refine dV (OpVal.neNil tab_ok rfl rfl rfl) ?_ | fail)
    refine dGo ?_ (hw := by simp) (o := OpVal.bytesStr tab_ok rfl rfl rfl rfl (Own.roSl ho2) (fun q hq => .inr (by simp [hq])))
    repeat (first | refine dL ?_ | refine dS ?_ | (first | refine dGo ?_ | refine dSk ?_ | refine dUn ?_ | fail) | (first | refine dPT ?_ | refine dPF ?_ | fail) | refine dV (OpVal.add rfl rfl (i64_in _ (by omega))) ?_ | refine dV (OpVal.sub rfl rfl (i64_in _ (by omega))) ?_ | refine dV (OpVal.neBool tab_ok rfl rfl rfl) ?_ | refine dV (OpVal.eqBool tab_ok rfl rfl rfl) ?_ | refine dV (OpVal.eqNil tab_ok rfl rfl rfl) ?_ | refine dV (OpVal.neNil tab_ok rfl rfl rfl) ?_ | fail)
    refine dGo ?_ (hw := by simp) (o := OpVal.ixI (j := j) tab_ok rfl rfl rfl rfl rfl hj6)
    refine dGo ?_ (hw := by simp) (o := OpVal.load tab_ok rfl (show At _ _ b9 (.cells (clsV (cls.set j ⟨a1, c1, own⟩)).toArray 30 (0, 0)) from .inr (by simp)) lj)
    refine dGo ?_ (hw := by simp) (o := OpVal.bytesStr tab_ok rfl rfl rfl rfl (Own.roSl ho1) (fun q hq => .inr (by simp [hq])))
    refine dGo ?_ (hw := by simp) (o := OpVal.neStr rfl rfl)
    repeat (first | refine dL ?_ | refine dS ?_ | (first | refine dGo ?_ | refine dSk ?_ | refine dUn ?_ | fail) | (first | refine dPT ?_ | refine dPF ?_ | fail) | refine dV (OpVal.add rfl rfl (i64_in _ (by omega))) ?_ | refine dV (OpVal.sub rfl rfl (i64_in _ (by omega))) ?_ | refine dV (OpVal.neBool tab_ok rfl rfl rfl) ?_ | refine dV (OpVal.eqBool tab_ok rfl rfl rfl) ?_ | refine dV (OpVal.eqNil tab_ok rfl rfl rfl) ?_ | refine dV (OpVal.neNil tab_ok rfl rfl rfl) ?_ | fail)
    refine WD.nil (W.dropNil (aG ?_))
    repeat (first | refine gx ?_ | refine gN fun _ => ?_ | refine gB fun _ => ?_ | fail)
    refine W.groupV [2, 3] rfl ?_
    refine aR (o := ⟨6 - (i + 1), by omega, i + 1, xs.set j own, cls.set j ⟨a1, c1, own⟩, H2, O1 ++ HD, by omega, hx2, hcx2, hcl2, hd2, rfl, rfl, rfl⟩)
  · obtain ⟨D, hD, hD2, hD3⟩ := lasts_law hxs bar keep
    have hokx := dvL_ok hxs
    have hB := DBarrier_spec (dvL xs) hokx b H h 0 6
    have hbok := barrier_ok hokx 0 6
    have hokD : D.Ok := by
      rw [← hD]
      split
      · exact crash_ok hbok 0 6 keep
      · exact crash_ok hokx 0 6 keep
    rcases (show ¬ ((i : Int) < (os.length : Int)) ∨ (((i : Int) < (os.length : Int)) ∧ ¬ (i : Int) < 6) by omega) with hx | ⟨hx1, hx2⟩
    all_goals rcases (show bar = true ∨ bar = false by cases bar <;> simp) with hb | hb
    case' inl.inl =>
      rw [if_pos hb] at hD
      repeat (first | refine gh (gc2 hx hb) ?_ | refine gN fun _ => ?_ | refine gB fun _ => ?_ | fail)
      refine aC (o := hB) (h := ?_)
      rintro _ _ ⟨H1, rfl, h1⟩
      refine aG ?_
      have hC := fun bs Hs hs => DCrash_spec _ hbok b H1 h1 0 6 keep bs Hs hs
      rw [hD] at hC
    case' inl.inr =>
      rw [if_neg (by rw [hb]; decide)] at hD
      repeat (first | refine gh (gc2 hx hb) ?_ | refine gN fun _ => ?_ | refine gB fun _ => ?_ | fail)
      have hC := fun bs Hs hs => DCrash_spec _ hokx b H h 0 6 keep bs Hs hs
      rw [hD] at hC
    case' inr.inl =>
      rw [if_pos hb] at hD
      repeat (first | refine gh (gc3 hx1 hx2 hb) ?_ | refine gN fun _ => ?_ | refine gB fun _ => ?_ | fail)
      refine aC (o := hB) (h := ?_)
      rintro _ _ ⟨H1, rfl, h1⟩
      refine aG ?_
      have hC := fun bs Hs hs => DCrash_spec _ hbok b H1 h1 0 6 keep bs Hs hs
      rw [hD] at hC
    case' inr.inr =>
      rw [if_neg (by rw [hb]; decide)] at hD
      repeat (first | refine gh (gc3 hx1 hx2 hb) ?_ | refine gN fun _ => ?_ | refine gB fun _ => ?_ | fail)
      have hC := fun bs Hs hs => DCrash_spec _ hokx b H h 0 6 keep bs Hs hs
      rw [hD] at hC
    all_goals
      clear hb
      repeat (first | refine gx ?_ | refine gN fun _ => ?_ | refine gB fun _ => ?_ | fail)
      refine aC (o := hS) (h := ?_) (hro := RoIn.all (fun q hq => by simp [hq]))
      rintro _ _ ⟨bs, Hs, rfl, rfl, hst⟩
      refine aG ?_
      repeat (first | refine gx ?_ | refine gN fun _ => ?_ | refine gB fun _ => ?_ | fail)
      refine aC (o := hC bs Hs hst) (h := ?_)
      rintro _ _ ⟨H2, Hs2, rfl, h2, hst2⟩
      refine aG ?_
      repeat (first | refine gx ?_ | refine gN fun _ => ?_ | refine gB fun _ => ?_ | fail)
      refine W.order [0, 1, 1] rfl ?_
      have hR := fun j => DRead_spec D hokD b H2 h2 j
      have hLs := fun j => DLasting_spec D hokD b H2 h2 j
      have hLa := DLater_spec D hokD b H2 h2 0 6
      rw [hD2] at hLa
      refine aLp (fun m ρ1 L1 => ∃ (j kk : Nat), j ≤ 6 ∧ kk = (if bar = true then 0 else (laterTo (dvL xs) 0 6 j).length) ∧ m = 6 - j ∧ ρ1 = [(16, .int .i64 (j : Int)), (15, .int .i64 (kk : Int)), (9, .slice (some ⟨b9, 0, none⟩) 6 6), (7, .pointer (some ⟨b, 0, none⟩)), (1, .bool bar), (2, .slice ak keep.length ck)] ∧ L1 = [H2, [(b9, .cells (clsV cls).toArray 30 (0, 0))], HD]) (o := ⟨0, 0, by decide, by split <;> rfl, rfl, rfl, rfl⟩) (h := ?_)
      rintro m ρ1 L1 ⟨j, kk, hj6, hkk, rfl, rfl, rfl⟩
      refine aG ?_
      by_cases hj : (j : Int) < 6
      · have hjx : j < xs.length := by rw [hxs.len]; omega
        have hjc : j < cls.length := by omega
        obtain ⟨q1, q2⟩ := hD3 j hjx
        have hR := hR j
        have hLs := hLs j
        rw [q1] at hR
        rw [q2] at hLs
        have hnx : (laterTo (dvL xs) 0 6 (j + 1)).length = (laterTo (dvL xs) 0 6 j).length + (if xs[j] = [] then 0 else 1) := by
          rw [laterTo_next, dvL_late hjx, List.length_append]
          unfold lateOf
          by_cases h0 : xs[j] = []
          · rw [if_pos h0, if_pos h0, if_neg (fun h => h.2.2 rfl)]; rfl
          · rw [if_neg h0, if_neg h0, if_pos ⟨by omega, by omega, sealB_ne _⟩]; rfl
        have hkb := laterTo_len (dvL xs) 0 6 j
        have l9 : (clsV cls)[0 + j * 1]? = some (.slice cls[j].a cls[j].xs.length cls[j].cap) := clsV_get hjc
        have hcj : (cls[j]).xs = xs[j] := by subst hcx; simp
        have hxj := hxs.all _ (List.getElem_mem hjx)
        obtain ⟨hcap, rc, hrc, hrcm⟩ := hcl _ (List.getElem_mem hjc)
        rw [hcj] at l9 hrc
        generalize (laterTo (dvL xs) 0 6 j).length = cnt at *
        generalize hct2 : (laterTo (dvL xs) 0 6 (j + 1)).length = cnt2 at hnx
        generalize cls[j] = cc at *
        generalize xs[j] = w at *
        repeat (first | refine gh hj ?_ | refine gN fun _ => ?_ | refine gB fun _ => ?_ | fail)
        refine aW (NewOf.mks (bytes := 1) (len := 16) (cap := 16) tab_ok rfl rfl rfl rfl rfl rfl rfl rfl rfl (Nat.le_refl _) (by decide) (by decide)) ?_
        intro b17
        rw [e16]
        refine aG ?_
        repeat (first | refine gx ?_ | refine gN fun _ => ?_ | refine gB fun _ => ?_ | fail)
        refine aV (OpVal.ixI (j := j) tab_ok rfl rfl rfl rfl rfl (show j < 6 by omega)) ?_
        refine aV (OpVal.load tab_ok rfl (at_own 2 rfl) l9) ?_
        rcases (show w = [] ∨ (w ≠ [] ∧ bar = true) ∨ (w ≠ [] ∧ bar = false ∧ cnt < keep.length ∧ keep.getD cnt false = true) ∨ (w ≠ [] ∧ bar = false ∧ cnt < keep.length ∧ keep.getD cnt false = false) ∨ (w ≠ [] ∧ bar = false ∧ ¬ cnt < keep.length) by
          by_cases h0 : w = []
          · exact .inl h0
          · cases bar
            · by_cases hk : cnt < keep.length
              · cases hg : keep.getD cnt false
                · exact .inr (.inr (.inr (.inl ⟨h0, rfl, hk, rfl⟩)))
                · exact .inr (.inr (.inl ⟨h0, rfl, hk, rfl⟩))
              · exact .inr (.inr (.inr (.inr ⟨h0, rfl, hk⟩)))
            · exact .inr (.inl ⟨h0, rfl⟩)) with h0 | ⟨h0, hb⟩ | ⟨h0, hb, hk, hg⟩ | ⟨h0, hb, hk, hg⟩ | ⟨h0, hb, hk⟩
        case' inl =>
          have hz : ¬ ((w.length : Nat) : Int) > 0 := by rw [h0]; decide
          repeat (first | refine gh hz ?_ | refine gN fun _ => ?_ | refine gB fun _ => ?_ | fail)
          have e2 : ∀ y, wantB w y = List.replicate 16 0 := fun y => by unfold wantB; rw [if_pos h0]
          have hk2 : kk = (if bar = true then 0 else cnt2) := by rw [hkk, hnx, if_pos h0]; rfl
          have hw2 := roOwn b17 (List.replicate 16 0) 5
          have hm2 : ∀ q ∈ [(b17, Obj.cells (u8s (List.replicate 16 0)).toArray 5 (0, 0))], q ∈ [(b17, Obj.cells (u8s (List.replicate 16 0)).toArray 5 (0, 0))] ++ HD := fun q hq => List.mem_append_left _ hq
        case' inr.inl =>
          have hz : ((w.length : Nat) : Int) > 0 := by have : w.length ≠ 0 := fun h => h0 (List.eq_nil_of_length_eq_zero h); omega
          repeat (first | refine gh (gc2 hz hb) ?_ | refine gN fun _ => ?_ | refine gB fun _ => ?_ | fail)
          refine aV (OpVal.ixI (j := j) tab_ok rfl rfl rfl rfl rfl (show j < 6 by omega)) ?_
          refine aV (OpVal.load tab_ok rfl (at_own 2 rfl) l9) ?_
          repeat (first | refine gx ?_ | refine gN fun _ => ?_ | refine gB fun _ => ?_ | fail)
          have e2 : wantB w (bar || keep.getD cnt false) = w := by unfold wantB; rw [if_neg h0, hb, Bool.true_or, if_pos rfl]
          have hk2 : kk = (if bar = true then 0 else cnt2) := by rw [hkk, if_pos hb, if_pos hb]
          have hw2 := hrc
          have hm2 : ∀ q ∈ rc, q ∈ [(b17, Obj.cells (u8s (List.replicate 16 0)).toArray 5 (0, 0))] ++ HD := fun q hq => List.mem_append_right _ (hrcm q hq)
        case' inr.inr.inl =>
          have hz : ((w.length : Nat) : Int) > 0 := by have : w.length ≠ 0 := fun h => h0 (List.eq_nil_of_length_eq_zero h); omega
          have hbn : ¬ bar = true := by rw [hb]; decide
          rw [if_neg hbn] at hkk
          have hkn : kk < keep.length := by omega
          have hkl : (kk : Int) < (keep.length : Int) := by omega
          obtain ⟨bz, oz, lz, ez, frz, rfl, rfl, -, hlk⟩ := RoSl.at (f := fun x : Bool => [Value.bool x]) (m := 1) (fun _ => rfl) hrk hkn
          have lk : lz[oz + kk * 1]? = some (.bool keep[kk]) := hlk 0 (by decide)
          have hgd : keep.getD cnt false = keep[kk] := by rw [← hkk, List.getD_eq_getElem?_getD, List.getElem?_eq_getElem hkn, Option.getD_some]
          rw [hgd] at hg
          rw [hg] at lk
          have hk2 : kk + 1 = (if bar = true then 0 else cnt2) := by rw [if_neg hbn, hnx, if_neg h0, hkk]
          repeat (first | refine gh (gc3 hz hb hkl) ?_ | refine gN fun _ => ?_ | refine gB fun _ => ?_ | fail)
          refine aV (OpVal.maxI rfl rfl (by omega)) ?_
          repeat (first | refine gh hkl ?_ | refine gN fun _ => ?_ | refine gB fun _ => ?_ | fail)
          refine aV (OpVal.minL (i := (kk : Int)) rfl rfl (by omega)) ?_
          repeat (first | refine gh hkl ?_ | refine gN fun _ => ?_ | refine gB fun _ => ?_ | fail)
          refine aV (OpVal.ixI (j := kk) tab_ok rfl rfl rfl rfl rfl hkn) ?_
          repeat (first | refine gh hkl ?_ | refine gN fun _ => ?_ | refine gB fun _ => ?_ | fail)
          refine aV (OpVal.load tab_ok rfl (show At _ _ bz (.cells lz.toArray ez frz) from .inr (by simp)) lk) ?_
          repeat (first | refine gx ?_ | refine gN fun _ => ?_ | refine gB fun _ => ?_ | fail)
          refine aV (OpVal.ixI (j := j) tab_ok rfl rfl rfl rfl rfl (show j < 6 by omega)) ?_
          refine aV (OpVal.load tab_ok rfl (at_own 2 rfl) l9) ?_
          repeat (first | refine gx ?_ | refine gN fun _ => ?_ | refine gB fun _ => ?_ | fail)
          have e2 : wantB w (bar || keep.getD cnt false) = w := by unfold wantB; rw [if_neg h0, hgd, hg, Bool.or_true, if_pos rfl]
          have hw2 := hrc
          have hm2 : ∀ q ∈ rc, q ∈ [(b17, Obj.cells (u8s (List.replicate 16 0)).toArray 5 (0, 0))] ++ HD := fun q hq => List.mem_append_right _ (hrcm q hq)
        case' inr.inr.inr.inl =>
          have hz : ((w.length : Nat) : Int) > 0 := by have : w.length ≠ 0 := fun h => h0 (List.eq_nil_of_length_eq_zero h); omega
          have hbn : ¬ bar = true := by rw [hb]; decide
          rw [if_neg hbn] at hkk
          have hkn : kk < keep.length := by omega
          have hkl : (kk : Int) < (keep.length : Int) := by omega
          obtain ⟨bz, oz, lz, ez, frz, rfl, rfl, -, hlk⟩ := RoSl.at (f := fun x : Bool => [Value.bool x]) (m := 1) (fun _ => rfl) hrk hkn
          have lk : lz[oz + kk * 1]? = some (.bool keep[kk]) := hlk 0 (by decide)
          have hgd : keep.getD cnt false = keep[kk] := by rw [← hkk, List.getD_eq_getElem?_getD, List.getElem?_eq_getElem hkn, Option.getD_some]
          rw [hgd] at hg
          rw [hg] at lk
          have hk2 : kk + 1 = (if bar = true then 0 else cnt2) := by rw [if_neg hbn, hnx, if_neg h0, hkk]
          repeat (first | refine gh (gc3 hz hb hkl) ?_ | refine gN fun _ => ?_ | refine gB fun _ => ?_ | fail)
          refine aV (OpVal.maxI rfl rfl (by omega)) ?_
          repeat (first | refine gh hkl ?_ | refine gN fun _ => ?_ | refine gB fun _ => ?_ | fail)
          refine aV (OpVal.minL (i := (kk : Int)) rfl rfl (by omega)) ?_
          repeat (first | refine gh hkl ?_ | refine gN fun _ => ?_ | refine gB fun _ => ?_ | fail)
          refine aV (OpVal.ixI (j := kk) tab_ok rfl rfl rfl rfl rfl hkn) ?_
          repeat (first | refine gh hkl ?_ | refine gN fun _ => ?_ | refine gB fun _ => ?_ | fail)
          refine aV (OpVal.load tab_ok rfl (show At _ _ bz (.cells lz.toArray ez frz) from .inr (by simp)) lk) ?_
          repeat (first | refine gx ?_ | refine gN fun _ => ?_ | refine gB fun _ => ?_ | fail)
          have e2 : wantB w (bar || keep.getD cnt false) = List.replicate 16 0 := by unfold wantB; rw [if_neg h0, hb, hgd, hg]; rfl
          have hw2 := roOwn b17 (List.replicate 16 0) 5
          have hm2 : ∀ q ∈ [(b17, Obj.cells (u8s (List.replicate 16 0)).toArray 5 (0, 0))], q ∈ [(b17, Obj.cells (u8s (List.replicate 16 0)).toArray 5 (0, 0))] ++ HD := fun q hq => List.mem_append_left _ hq
        case' inr.inr.inr.inr =>
          have hz : ((w.length : Nat) : Int) > 0 := by have : w.length ≠ 0 := fun h => h0 (List.eq_nil_of_length_eq_zero h); omega
          have hbn : ¬ bar = true := by rw [hb]; decide
          rw [if_neg hbn] at hkk
          have hkl : ¬ (kk : Int) < (keep.length : Int) := by omega
          repeat (first | refine gh (gc3 hz hb hkl) ?_ | refine gN fun _ => ?_ | refine gB fun _ => ?_ | fail)
          have e2 : wantB w (bar || keep.getD cnt false) = List.replicate 16 0 := by
            unfold wantB
            rw [if_neg h0, hb, List.getD_eq_getElem?_getD, List.getElem?_eq_none (by omega)]
            rfl
          have hk2 : kk + 1 = (if bar = true then 0 else cnt2) := by rw [if_neg hbn, hnx, if_neg h0, hkk]
          have hw2 := roOwn b17 (List.replicate 16 0) 5
          have hm2 : ∀ q ∈ [(b17, Obj.cells (u8s (List.replicate 16 0)).toArray 5 (0, 0))], q ∈ [(b17, Obj.cells (u8s (List.replicate 16 0)).toArray 5 (0, 0))] ++ HD := fun q hq => List.mem_append_left _ hq
        all_goals
          try rw [e2] at hR hLs
          try rw [e2 (bar || keep.getD cnt false)] at hR hLs
          unfold TwoOwn at hR hLs
          refine aC (o := hR) (h := ?_) (hro := RoIn.own 1 rfl)
          rintro _ _ ⟨x1, y1, H1, rfl, rfl, ho1⟩
          refine aG ?_
          repeat (first | refine gx ?_ | refine gN fun _ => ?_ | refine gB fun _ => ?_ | fail)
          refine aC (o := hLs) (h := ?_) (hro := RoIn.own 2 rfl)
          rintro _ _ ⟨x3, y3, H3, rfl, rfl, ho3⟩
          refine aG ?_
          repeat (first | refine gx ?_ | refine gN fun _ => ?_ | refine gB fun _ => ?_ | fail)
          refine aV (OpVal.bytesStr tab_ok rfl rfl rfl rfl (Own.roSl ho1) (fun q hq => .inl (by simp [hq]))) ?_
          repeat (first | refine gx ?_ | refine gN fun _ => ?_ | refine gB fun _ => ?_ | fail)
          refine aV (OpVal.bytesStr tab_ok rfl rfl rfl rfl hw2 (fun q hq => .inl ((List.mem_append.1 (hm2 q hq)).elim (fun h => by rw [List.mem_singleton.1 h]; simp) (fun h => by simp [h])))) ?_
          repeat (first | refine gx ?_ | refine gN fun _ => ?_ | refine gB fun _ => ?_ | fail)
          refine aV (OpVal.neStr rfl rfl) ?_
          repeat (first | refine gx ?_ | refine gN fun _ => ?_ | refine gB fun _ => ?_ | fail)
          refine aV (OpVal.bytesStr tab_ok rfl rfl rfl rfl (Own.roSl ho3) (fun q hq => .inl (by simp [hq]))) ?_
          repeat (first | refine gx ?_ | refine gN fun _ => ?_ | refine gB fun _ => ?_ | fail)
          refine aV (OpVal.bytesStr tab_ok rfl rfl rfl rfl hw2 (fun q hq => .inl ((List.mem_append.1 (hm2 q hq)).elim (fun h => by rw [List.mem_singleton.1 h]; simp) (fun h => by simp [h])))) ?_
          repeat (first | refine gx ?_ | refine gN fun _ => ?_ | refine gB fun _ => ?_ | fail)
          refine aV (OpVal.neStr rfl rfl) ?_
          repeat (first | refine gx ?_ | refine gN fun _ => ?_ | refine gB fun _ => ?_ | fail)
          refine aR (o := ⟨6 - (j + 1), by omega, j + 1, _, by omega, by rw [hct2]; exact hk2, rfl, rfl, rfl⟩)
      · repeat (first | refine gh hj ?_ | refine gN fun _ => ?_ | refine gB fun _ => ?_ | fail)
        refine aC (o := hLa) (h := ?_)
        rintro _ _ ⟨x5, y5, H5, Hz, rfl, rfl, hdv5, hoz⟩
        refine aG ?_
        repeat (first | refine gx ?_ | refine gN fun _ => ?_ | refine gB fun _ => ?_ | fail)
        refine aC (o := Lives_spec) (h := ?_) (hro := RoIn.nil)
        rintro _ _ ⟨rfl, rfl⟩
        refine aG ?_
        repeat (first | refine gx ?_ | refine gN fun _ => ?_ | refine gB fun _ => ?_ | fail)
        refine W.ret (fin _ _ (FinOk.mk' ([]) (.tmp rfl .nil) (by repeat (first | exact Sel.nil | (apply Sel.cons; (repeat (first | exact Pick.here | apply Pick.there))))) rfl ?_))
        exact ⟨by simp [pack], rfl⟩
end Go.Proofs.Ytpimbaphenignaa
