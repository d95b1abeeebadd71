/-
  The walks of this claim and the rules that they use, part five: each theorem is a contract of one function, or what such a proof asks.
-/
import Derived.Test.YtfpghdcjdnifcaaGreatP4
namespace Go.Proofs.YtfpghdcjdnifcaaGreat
open Go Go.Sl Go.IntWalk
set_option maxHeartbeats 8000000
set_option maxRecDepth 20000
set_option linter.unusedVariables false
theorem supPs_ok (l : List Cp) : u8ok (supPs l) := fun x hx => by
 unfold supPs at hx
 obtain ⟨y, -, hy⟩ := List.mem_flatMap.1 hx
 unfold les at hy
 obtain ⟨z, -, hz⟩ := List.mem_flatMap.1 hy
 exact le8_ok z x hz
theorem ok_app {a b : List Int} (ha : u8ok a) (hb : u8ok b) : u8ok (a ++ b) := fun x hx => (List.mem_append.1 hx).elim (ha x) (hb x)
theorem RIntN_spec (n : Int) (hn : i64s n) (r : List Int) (hu : u8ok r) (hl : r.length ≤ 100000) (b : Nat) (D H : HL) (h : RdAt ⟨le8 n ++ r, false⟩ b D H) :
  Ctr Tryz.prog 203 [.pointer (some ⟨b, 0, none⟩)] [H] D (fun v L' => ∃ H', v = .int .i64 n ∧ L' = [H'] ∧ RdAt ⟨r, false⟩ b D H') := by
 have h1 := RInt_spec ⟨le8 n ++ r, false⟩ (ok_app (le8_ok n) hu) (by simp only [List.length_append, le8_len]; omega) b D H h
 rw [int_le8 ⟨hn.1, hn.2⟩] at h1
 exact h1
theorem supPs_cons (x : Cp) (l : List Cp) : supPs (x :: l) = le8 x.q ++ (le8 x.b ++ (le8 x.p ++ supPs l)) := by simp [supPs, les]
theorem supBody_is (e : Int) (c : Cf) : supBody e c = le8 1 ++ (le8 e ++ (le8 c.fr ++ (le8 c.dp ++ (le8 c.se ++ (le8 c.ps.length ++ supPs c.ps))))) := by simp [supBody, les]
theorem SupRead_spec (e : Int) (he : 1 ≤ e ∧ e ≤ 1073741824) (c : Cf) (hok : c.Ok) (hin : c.In) (a : Option Addr) (cap : Nat) (hcap : (supB e c).length ≤ cap) (ro : HL) (hro : RoSl 1 (u8s (supB e c)) a (supB e c).length ro) :
  Ctr Tryz.prog 180 [.slice a (supB e c).length cap] [] ro (fun v L' => ∃ a' c' H, v = .tuple #[supV e c a' c', .int .i64 0] ∧ L' = [H] ∧ Own 3 92 (cps c.ps) a' c.ps.length c' H) := by
 have hl := hok.len
 have hbl : (supBody e c).length = 48 + 24 * c.ps.length := by rw [supBody_is]; simp only [List.length_append, le8_len, supPs_len]; omega
 have hsl : (supB e c).length = (supBody e c).length + 4 := by unfold supB; rw [sealB_len]
 have htk : (supB e c).take ((supB e c).length - 4) = supBody e c := by
  rw [hsl]; unfold supB sealB; simp
 have hT := Take_spec (supB e c) (sealB_ok (supBody_ok e c)) (by omega) a cap hcap ro hro (by omega)
 rw [htk, show (supB e c).length - 4 = (supBody e c).length by omega] at hT
 have hT2 := hT.post (post' := fun v L' => ∃ a' cap' H, v = .tuple #[.slice a' (supBody e c).length cap', .int .i64 0] ∧ L' = [H] ∧ Own 1 5 (u8s (supBody e c)) a' (supBody e c).length cap' H) (fun v L' h => h.elim (fun h => absurd rfl h.1) (fun h => h.2))
 have hL := fun a2 c2 r h => LRead_spec (supBody e c) (by omega) a2 c2 r h
 have hps := supPs_ok c.ps
 have hpl : (supPs c.ps).length ≤ 1000 := by rw [supPs_len]; omega
 have hpl2 := supPs_len c.ps
 have o6 := ok_app (le8_ok (c.ps.length : Int)) hps
 have o5 := ok_app (le8_ok c.se) o6
 have o4 := ok_app (le8_ok c.dp) o5
 have o3 := ok_app (le8_ok c.fr) o4
 have o2 := ok_app (le8_ok e) o3
 have hl2 : i64s (c.ps.length : Int) := by constructor <;> omega
 have i1 := RIntN_spec 1 ⟨by decide, by decide⟩ _ o2 (by simp only [List.length_append, le8_len]; omega)
 have i2 := RIntN_spec e ⟨by omega, by omega⟩ _ o3 (by simp only [List.length_append, le8_len]; omega)
 have i3 := RIntN_spec c.fr hin.fr _ o4 (by simp only [List.length_append, le8_len]; omega)
 have i4 := RIntN_spec c.dp hin.dp _ o5 (by simp only [List.length_append, le8_len]; omega)
 have i5 := RIntN_spec c.se hin.se _ o6 (by simp only [List.length_append, le8_len]; omega)
 have i6 := RIntN_spec (c.ps.length : Int) hl2 _ hps (by omega)
 rw [← supBody_is] at i1
 clear hT o2 o3 o4 o5 o6 htk
 generalize supBody e c = body at *
 generalize le8 (c.ps.length : Int) ++ supPs c.ps = r6 at *
 generalize le8 c.se ++ r6 = r5 at *
 generalize le8 c.dp ++ r5 = r4 at *
 generalize le8 c.fr ++ r4 = r3 at *
 generalize le8 e ++ r3 = r2 at *
 refine Ctr.enter (n := 74) [.cell 2 156, .tmp 3] [(0, _)] Tryz.func180 rfl rfl rfl (lb rfl) Tryz.call180 ⟨rfl, trivial⟩ ?_
 intro cx fin fin0
 refine aG ?_
 repeat (first | refine gx ?_ | refine gN fun _ => ?_ | refine gB fun _ => ?_ | fail)
 rename_i b2
 refine aC (o := hT2) (h := ?_) (hro := RoIn.same)
 rintro _ _ ⟨a1, c1, H1, rfl, rfl, ho1⟩
 refine aG ?_
 repeat refine gx ?_
 refine aC (o := hL a1 c1 H1 (Own.roSl ho1)) (h := ?_) (hro := RoIn.own 0 rfl)
 rintro _ _ ⟨br, Hr, D, rfl, rfl, hr⟩
 refine aG ?_
 repeat refine gx ?_
 refine aC (o := i1 br D Hr hr) (h := ?_) (hro := RoIn.own 0 rfl)
 rintro _ _ ⟨Hr, rfl, rfl, hr⟩
 refine aG ?_
 repeat refine gx ?_
 refine aC (o := i2 br D Hr hr) (h := ?_) (hro := RoIn.own 0 rfl)
 rintro _ _ ⟨Hr, rfl, rfl, hr⟩
 refine aG ?_
 repeat refine gx ?_
 refine aC (o := i3 br D Hr hr) (h := ?_) (hro := RoIn.own 0 rfl)
 rintro _ _ ⟨Hr, rfl, rfl, hr⟩
 refine aG ?_
 repeat refine gx ?_
 refine aC (o := i4 br D Hr hr) (h := ?_) (hro := RoIn.own 0 rfl)
 rintro _ _ ⟨Hr, rfl, rfl, hr⟩
 refine aG ?_
 repeat refine gx ?_
 refine aC (o := i5 br D Hr hr) (h := ?_) (hro := RoIn.own 0 rfl)
 rintro _ _ ⟨Hr, rfl, rfl, hr⟩
 refine aG ?_
 refine aBu (ps := [_, _, _]) ?_
 refine aBu (ps := [_, _]) ?_
 repeat (first | refine gx ?_ | refine gN fun _ => ?_ | refine gB fun _ => ?_ | fail)
 rename_i b8
 refine aC (o := i6 br D Hr hr) (h := ?_) (hro := RoIn.own 1 rfl)
 rintro _ _ ⟨Hr, rfl, rfl, hr⟩
 refine aG ?_
 have z1 : ¬ (c.ps.length : Int) < 0 := by omega
 have z2 : ¬ (c.ps.length : Int) > 16 := by omega
 repeat refine gh (gc2 z1 z2) ?_
 refine W.order [1, 0, 0, 0, 0] rfl ?_
 refine W.nilChunk ?_
 refine aLp (fun k ρ1 L1 => ∃ (j : Nat) (al : Option Addr) (cl : Nat) (Hl Hr : HL), j ≤ c.ps.length ∧ k = c.ps.length - j ∧ Own 3 92 (cps (c.ps.take j)) al j cl Hl ∧ RdAt ⟨supPs (c.ps.drop j), false⟩ br D Hr ∧ ρ1 = [(43, .int .i64 (j : Int)), (42, .int .i64 (c.ps.length : Int)), (8, .pointer (some ⟨b8, 0, none⟩)), (7, .int .i64 1), (6, .pointer (some ⟨br, 0, none⟩)), (2, .pointer (some ⟨b2, 0, none⟩))] ∧ L1 = [Hl, [(b8, .cells #[.int .i64 e, .int .i64 c.fr, .int .i64 c.dp, .int .i64 c.se, .slice al j cl] 156 (0, 0))], Hr, D, H1, [(b2, .cells #[.int .i64 0, .int .i64 0, .int .i64 0, .int .i64 0, .slice none 0 0] 156 (0, 0))]]) (o := ⟨0, none, 0, [], Hr, Nat.zero_le _, rfl, Own.nil 3 _, hr, rfl, rfl⟩) (h := ?_)
 clear hr Hr
 rintro k ρ1 L1 ⟨j, al, cl, Hl, Hr, hj, rfl, how, hr, rfl, rfl⟩
 refine aG ?_
 rcases Classical.em ((j : Int) < (c.ps.length : Int)) with hz | hz
 ·
  have hlt : j < c.ps.length := by omega
  have hx := hin.ps _ (List.getElem_mem hlt)
  have hdr : c.ps.drop j = c.ps[j] :: c.ps.drop (j + 1) := List.drop_eq_getElem_cons hlt
  have htk : cps (c.ps.take (j + 1)) = cps (c.ps.take j) ++ [.int .i64 (c.ps[j]).q, .int .i64 (c.ps[j]).b, .int .i64 (c.ps[j]).p] := by
   unfold cps
   rw [List.take_succ_eq_append_getElem hlt, List.flatMap_append]
   rfl
  rw [hdr, supPs_cons] at hr
  generalize c.ps[j] = x at *
  have p0 := supPs_ok (c.ps.drop (j + 1))
  have l0 : (supPs (c.ps.drop (j + 1))).length ≤ 1000 := by rw [supPs_len, List.length_drop]; omega
  have p1 := ok_app (le8_ok x.p) p0
  have p2 := ok_app (le8_ok x.b) p1
  have j1 := RIntN_spec x.q hx.1 _ p2 (by simp only [List.length_append, le8_len]; omega)
  have j2 := RIntN_spec x.b hx.2.1 _ p1 (by simp only [List.length_append, le8_len]; omega)
  have j3 := RIntN_spec x.p hx.2.2 _ p0 (by omega)
  repeat refine gh hz ?_
  refine W.drawH tab_ok 12 [.b false, .b false, .b false, .b false, .b true, .b false, .b true, .b false, .b true, .b false, .b true, .b true] [0,2] follows (by decide +kernel) (by decide +kernel) rfl (by decide) rfl ?_
  intro _
  refine dG ?_
  refine gdx ?_
  refine dC (o := j1 br D Hr hr) (h := ?_) (hro := (fun q hq => .inr (by simp [hq])))
  rintro _ _ ⟨Hr, rfl, rfl, hr⟩
  refine dG ?_
  refine gdx ?_
  refine dC (o := j2 br D Hr hr) (h := ?_) (hro := (fun q hq => .inr (by simp [hq])))
  rintro _ _ ⟨Hr, rfl, rfl, hr⟩
  refine dG ?_
  refine gdx ?_
  refine dC (o := j3 br D Hr hr) (h := ?_) (hro := (fun q hq => .inr (by simp [hq])))
  rintro _ _ ⟨Hr, rfl, rfl, hr⟩
  refine dG ?_
  refine gdx ?_
  refine dV (OpVal.build (ps := [_, _, _]) tab_ok rfl rfl rfl rfl (by repeat (first | exact trivial | refine ⟨⟨_, _, _, rfl, rfl, rfl⟩, ?_⟩)) rfl) ?_
  refine dSl (ps := [_]) ?_
  intro bt
  refine dG ?_
  refine dAp (how) ?_
  rintro _ _ ⟨_, _, _, rfl, rfl, ho⟩
  refine dG ?_
  refine gdx ?_
  refine WD.nil (W.dropNil (aG ?_))
  rw [← htk] at ho
  repeat refine gh hz ?_
  refine W.order [0, 2, 1, 1, 1, 1] rfl ?_
  refine aR (o := ⟨c.ps.length - (j + 1), by omega, j + 1, _, _, _, _, hlt, rfl, ho, hr, rfl, rfl⟩)
 ·
  obtain rfl : j = c.ps.length := by omega
  rw [List.take_length] at how
  rw [List.drop_length] at hr
  repeat refine gh hz ?_
  have hE := REnd_spec _ br D Hr hr
  rw [show (⟨supPs [], false⟩ : Rd).end_ = 0 from rfl] at hE
  have hM := SupMay_spec e c (by omega) al cl (Own.le how) Hl (Own.roSl how)
  refine aC (o := hE) (h := ?_) (hro := RoIn.own 2 rfl)
  rintro _ _ ⟨rfl, rfl⟩
  refine aG ?_
  repeat refine gx ?_
  refine aC (o := hM) (h := ?_) (hro := RoIn.own 0 rfl)
  rintro _ _ ⟨mb, rfl, rfl, hmb⟩
  refine aG ?_
  obtain rfl : mb = true := hmb.2 ⟨he, hok⟩
  repeat refine gx ?_
  refine W.ret (fin _ _ (FinOk.first 1 (aRc (.tmp rfl .nil)) rfl ?_))
  exact ⟨al, cl, Hl, rfl, rfl, how⟩
theorem SupNext_spec (e : Int) (he1 : 1 ≤ e) (c : Cf) (h1 : 1 ≤ c.ps.length) (h16 : c.ps.length ≤ 16) (a : Option Addr) (cap : Nat) (ro : HL) (hro : RoSl 3 (cps c.ps) a c.ps.length ro) :
  Ctr Tryz.prog 182 [supV e c a cap] [] ro (fun v L' => (e ≥ 1073741824 ∧ v = .tuple #[.agg #[.int .i64 0, .int .i64 0, .int .i64 0, .int .i64 0, .slice none 0 0], .int .i64 13] ∧ L' = []) ∨
   (¬ e ≥ 1073741824 ∧ ∃ a' c' H, v = .tuple #[supV (e + 1) c a' c', .int .i64 0] ∧ L' = [H] ∧ Own 3 92 (cps c.ps) a' c.ps.length c' H)) := by
 have hC := CClone_spec c h1 h16 a cap ro hro
 unfold supV
 simp only [Cf.v] at hC
 rcases Classical.em (e ≥ 1073741824) with h | h
 ·
  refine Ctr.enter (n := 15) [.cell 2 156, .tmp 3] [(0, _)] Tryz.func182 rfl rfl rfl (lb rfl) Tryz.call182 ⟨rfl, trivial⟩ ?_
  intro cx fin fin0
  refine aG ?_
  repeat (first | refine gx ?_ | refine gN fun _ => ?_ | refine gB fun _ => ?_ | fail)
  repeat refine gh h ?_
  refine aBu (ps := []) ?_
  repeat refine gx ?_
  refine W.ret (fin _ _ (FinOk.first 0 (aRc (.tmp rfl .nil)) rfl ?_))
  exact .inl ⟨h, rfl, rfl⟩
 ·
  refine Ctr.enter (n := 15) [.cell 2 156, .tmp 3] [(0, _)] Tryz.func182 rfl rfl rfl (lb rfl) Tryz.call182 ⟨rfl, trivial⟩ ?_
  intro cx fin fin0
  refine aG ?_
  repeat (first | refine gx ?_ | refine gN fun _ => ?_ | refine gB fun _ => ?_ | fail)
  repeat refine gh h ?_
  refine W.drawH tab_ok 7 [.b false, .b false, .b false, .b false, .b false, .b true, .b false] [] follows (by decide +kernel) (by decide +kernel) rfl (by decide) rfl ?_
  intro _
  refine dG ?_
  refine gdx ?_
  refine dC (o := hC) (h := ?_) (hro := (fun q hq => .inr (by simp [hq])))
  rintro _ _ ⟨a', c', H', rfl, rfl, ho⟩
  refine dG ?_
  refine gdx ?_
  refine dV (OpVal.build (ps := [_, _]) tab_ok rfl rfl rfl rfl (by repeat (first | exact trivial | refine ⟨⟨_, _, _, rfl, rfl, rfl⟩, ?_⟩)) rfl) ?_
  refine gdx ?_
  refine WD.nil (W.dropNil (aG ?_))
  repeat refine gx ?_
  refine W.ret (fin _ _ (FinOk.first 1 (aRc (.tmp rfl .nil)) rfl ?_))
  exact .inr ⟨h, a', c', H', rfl, rfl, ho⟩
theorem PRecover_spec (p : Pl) (hg : p.Good) (b : Nat) (H : HL) (h : PlAt p b H) (hd : p.down ≠ 0) : Ctr Tryz.prog 110 [.pointer (some ⟨b, 0, none⟩)] [H] [] (fun _ L' => ∃ H', L' = [H'] ∧ PlAt p.ready b H') := by
 obtain ⟨D, ac, cc, bd, ba, bs, al, cl, bl, la, ca, bts, bps, bfs, bks, Ho, Ht, Hp, Hf, Hk, Hd, Hc, rfl, hT, hD, hDC, hK⟩ := h
 have hfin : ∀ (p' : Pl) (D' : Dv) (Hd2 : HL), p'.l = p.l → p'.c = p.c → DevAt D' bd Hd2 → DCut p' D' → PlAt p' b ([(b, Obj.cells (List.toArray (plCells p' ac cc bd ba bs al cl)) 162 (0, 0))] ++ (Ho ++ (Ht ++ (Hp ++ (Hf ++ (Hk ++ (Hd2 ++ Hc))))))) :=
  fun p' D' Hd2 e1 e2 g1 g2 => ⟨D', ac, cc, bd, ba, bs, al, cl, bl, la, ca, bts, bps, bfs, bks, Ho, Ht, Hp, Hf, Hk, Hd2, Hc, rfl, hT.num e1 e2, g1, g2, hK.num (by rw [e1]) e2⟩
 have hdn := hg.inv.dn
 have hep := hg.inv.ep
 have hl := hg.inv.ok.len
 have hH := DHead_spec D hDC.ok bd Hd hD
 have hhd := hDC.head
 rw [hhd] at hH
 have hR := fun a cap hc ro hr => SupRead_spec p.epoch hep p.c hg.inv.ok hg.inv.cin a cap hc ro hr
 have hN := fun a cap ro hr => SupNext_spec p.epoch hep.1 p.c hl.1 hl.2 a cap ro hr
 have h64 : i64s (p.epoch + 1) := ⟨by omega, by omega⟩
 have hW := fun (h1 : p.epoch + 1 ≤ 1073741824) a cap hc ro hr => (SupWrite_spec (p.epoch + 1) h64 p.c hg.inv.cin (by omega) a cap hc ro hr).post (post' := fun v L' => ∃ a' cap' H, v = .tuple #[.slice a' (supB (p.epoch + 1) p.c).length cap', .int .i64 0] ∧ L' = [H] ∧ Own 1 5 (u8s (supB (p.epoch + 1) p.c)) a' (supB (p.epoch + 1) p.c).length cap' H) (fun v L' h => h.elim (fun h => absurd ⟨⟨by omega, h1⟩, hg.inv.ok⟩ h.1) (fun h => h.2))
 have hsl : (supB (p.epoch + 1) p.c).length ≤ 100000 := by unfold supB; rw [sealB_len, supBody_len]; omega
 have hS := fun a cap rb hr => DSetHead_spec D hDC.ok bd Hd hD (supB (p.epoch + 1) p.c) hsl a cap rb hr
 have hDC2 : DCut { p with down := 0, epoch := p.epoch + 1 } ⟨D.lasts, D.later, supB (p.epoch + 1) p.c⟩ := ⟨⟨hDC.ok.len, hDC.ok.n, hDC.ok.lu, hDC.ok.tu, sealB_ok (supBody_ok _ _), hsl⟩, hDC.n, rfl, hDC.cut⟩
 have hpr : p.ready = p.ready := rfl
 conv at hpr => rhs; unfold Pl.ready
 generalize p.ready = out at *
 generalize supB (p.epoch + 1) p.c = hb2 at *
 generalize supB p.epoch p.c = hb1 at *
 unfold supV at *
 refine Ctr.enter (n := 55) [] [(0, _)] Tryz.func110 rfl rfl rfl (lb rfl) Tryz.call110 ⟨rfl, trivial⟩ ?_
 intro cx fin fin0
 refine aG ?_
 refine splQ rfl ?_
 refine aG ?_
 repeat refine gx ?_
 rcases Classical.em (p.down - 1 > 0) with hz | hz
 ·
  rw [if_pos (by omega)] at hpr
  subst hpr
  repeat refine gh hz ?_
  refine W.groupV [0, 0, 0, 0, 0, 0, 0, 0] rfl ?_
  refine W.ret (fin _ _ (FinOk.first 1 .nil rfl ?_))
  exact ⟨_, rfl, hfin { p with down := p.down - 1 } D Hd rfl rfl hD (hDC.num rfl rfl rfl)⟩
 rw [if_neg (by omega)] at hpr
 have hd0 : p.down - 1 = 0 := by omega
 repeat refine gh hz ?_
 refine aC (o := hH) (h := ?_) (hro := RoIn.own 6 rfl)
 rintro _ _ ⟨a1, c1, H1, rfl, rfl, ho1⟩
 refine aG ?_
 repeat refine gx ?_
 refine aC (o := hR a1 c1 (Own.le ho1) H1 (Own.roSl ho1)) (h := ?_) (hro := RoIn.own 0 rfl)
 rintro _ _ ⟨a2, c2, H2, rfl, rfl, ho2⟩
 refine aG ?_
 repeat (first | refine gx ?_ | refine gN fun _ => ?_ | refine gB fun _ => ?_ | fail)
 rcases Classical.em (p.epoch ≥ 1073741824) with he | he
 ·
  rw [if_neg (by omega)] at hpr
  subst hpr
  have hN2 := (hN a2 c2 H2 (Own.roSl ho2)).post (post' := fun v L' => v = .tuple #[.agg #[.int .i64 0, .int .i64 0, .int .i64 0, .int .i64 0, .slice none 0 0], .int .i64 13] ∧ L' = []) (fun v L' h => h.elim (fun h => h.2) (fun h => absurd he h.1))
  refine aC (o := hN2) (h := ?_) (hro := RoIn.own 1 rfl)
  rintro _ _ ⟨rfl, rfl⟩
  refine aG ?_
  repeat (first | refine gx ?_ | refine gN fun _ => ?_ | refine gB fun _ => ?_ | fail)
  refine W.groupV [4, 4, 4, 4, 4, 4, 4, 4] rfl ?_
  refine W.ret (fin _ _ (FinOk.first 1 .nil rfl ?_))
  exact ⟨_, rfl, hfin { p with down := 1 } D Hd rfl rfl hD (hDC.num rfl rfl rfl)⟩
 ·
  rw [if_pos (by omega)] at hpr
  subst hpr
  have hN2 := (hN a2 c2 H2 (Own.roSl ho2)).post (post' := fun v L' => ∃ a' c' H, v = .tuple #[.agg #[.int .i64 (p.epoch + 1), .int .i64 p.c.fr, .int .i64 p.c.dp, .int .i64 p.c.se, .slice a' p.c.ps.length c'], .int .i64 0] ∧ L' = [H] ∧ Own 3 92 (cps p.c.ps) a' p.c.ps.length c' H) (fun v L' h => h.elim (fun h => absurd h.1 he) (fun h => h.2))
  refine aC (o := hN2) (h := ?_) (hro := RoIn.own 1 rfl)
  rintro _ _ ⟨a3, c3, H3, rfl, rfl, ho3⟩
  refine aG ?_
  repeat (first | refine gx ?_ | refine gN fun _ => ?_ | refine gB fun _ => ?_ | fail)
  refine aC (o := hW (by omega) a3 c3 (Own.le ho3) H3 (Own.roSl ho3)) (h := ?_) (hro := RoIn.own 1 rfl)
  rintro _ _ ⟨a4, c4, H4, rfl, rfl, ho4⟩
  refine aG ?_
  repeat refine gx ?_
  refine aC (o := hS a4 c4 H4 (Own.roSl ho4)) (h := ?_) (hro := RoIn.own 0 rfl)
  rintro _ _ ⟨Hd2, rfl, hD2⟩
  refine aG ?_
  repeat refine gx ?_
  refine W.groupV [7, 7, 7, 7, 7, 7, 0, 6] rfl ?_
  refine fin0 _ _ (FinOk.first 1 .nil rfl ?_)
  rw [hd0]
  exact ⟨_, rfl, hfin { p with down := 0, epoch := p.epoch + 1 } _ Hd2 rfl rfl hD2 hDC2⟩
theorem PTick_spec (p : Pl) (hg : p.Good) (hid : ∀ j : Nat, j < p.l.length → (p.tn j).t.ids ≤ 1000000) (hnow : p.now ≤ 1000000000000) (b : Nat) (H : HL) (h : PlAt p b H) : Ctr Tryz.prog 54 [.pointer (some ⟨b, 0, none⟩)] [H] [] (fun _ L' => ∃ H', L' = [H'] ∧ PlAt p.tick b H') := by
 have hR := PReady_spec p b H h
 obtain ⟨j, hj, hlt⟩ := own_lt hg.inv
 have h0 := hg.inv.now
 have hfin : ∀ (q : Pl) (Hq : HL), PlAt q b Hq → ∃ ac cc bd ba bs al cl Hq', Hq = [(b, Obj.cells (List.toArray (plCells q ac cc bd ba bs al cl)) 162 (0, 0))] ++ Hq' ∧ PlAt { q with now := q.now + 1 } b ([(b, Obj.cells (List.toArray (plCells { q with now := q.now + 1 } ac cc bd ba bs al cl)) 162 (0, 0))] ++ Hq') := by
  rintro q Hq ⟨D, ac, cc, bd, ba, bs, al, cl, bl, la, ca, bts, bps, bfs, bks, Ho, Ht, Hp, Hf, Hk, Hd, Hc, rfl, hT, hD, hDC, hK⟩
  exact ⟨ac, cc, bd, ba, bs, al, cl, _, rfl, D, ac, cc, bd, ba, bs, al, cl, bl, la, ca, bts, bps, bfs, bks, Ho, Ht, Hp, Hf, Hk, Hd, Hc, rfl, hT.num rfl rfl, hD, hDC.num rfl rfl rfl, hK.num rfl rfl⟩
 unfold Pl.tick
 rcases Classical.em (p.down = 0) with hd | hd
 ·
  have hS := PServe_spec p hg b H h j hlt (hid j hlt)
  rw [← hj] at hS
  obtain ⟨D, ac, cc, bd, ba, bs, al, cl, bl, la, ca, bts, bps, bfs, bks, Ho, Ht, Hp, Hf, Hk, Hd, Hc, rfl, hT, hD, hDC, hK⟩ := h
  obtain ⟨Hc2, rfl, -⟩ := hK.cs
  have hO := SOwner_spec p.l.length (by omega) bs p.now h0
  rw [show p.now % (p.l.length : Int) = p.own from rfl] at hO
  have e2 : (p.setE p.own ((p.tn p.own).serve p.now)).now = p.now := rfl
  generalize hq : p.setE p.own ((p.tn p.own).serve p.now) = q at *
  refine Ctr.enter (n := 24) [] [(0, _)] Tryz.func54 rfl rfl rfl (lb rfl) Tryz.call54 ⟨rfl, trivial⟩ ?_
  intro cx fin fin0
  refine aG ?_
  repeat refine gx ?_
  refine aC (o := hR) (h := ?_) (hro := RoIn.own 0 rfl)
  rintro _ _ ⟨rfl, rfl⟩
  refine aG ?_
  repeat refine gh hd ?_
  refine W.drawH tab_ok 10 [.b false, .b false, .b false, .b false, .b false, .b false, .b false, .b false, .b false, .b false] [] follows (by decide +kernel) (by decide +kernel) rfl (by decide) rfl ?_
  intro _
  refine dG ?_
  refine gdx ?_
  refine dQ (o := hO) (h := ?_) (hro := (fun q hq => by simp at hq; simp [hq, arCells]))
  refine gdx ?_
  refine WD.nil (W.dropNil (aG ?_))
  repeat refine gx ?_
  refine aC (o := hS) (h := ?_)
  rintro _ _ ⟨H2, rfl, hq'⟩
  refine aG ?_
  obtain ⟨ac, cc, bd, ba, bs, al, cl, Hq', rfl, hq2⟩ := hfin q H2 hq'
  refine spl2 rfl ?_
  refine aG ?_
  simp only [plCells, e2] at hq2 ⊢
  repeat refine gx ?_
  refine W.groupV [0, 0] rfl ?_
  refine fin0 _ _ (FinOk.first 1 .nil rfl ?_)
  rw [if_pos hd]
  exact ⟨_, rfl, hq2⟩
 ·
  have hS := PRecover_spec p hg b H h hd
  have e2 : p.ready.now = p.now := by unfold Pl.ready; split <;> (try split) <;> rfl
  generalize p.ready = q at *
  refine Ctr.enter (n := 24) [] [(0, _)] Tryz.func54 rfl rfl rfl (lb rfl) Tryz.call54 ⟨rfl, trivial⟩ ?_
  intro cx fin fin0
  refine aG ?_
  repeat refine gx ?_
  refine aC (o := hR) (h := ?_) (hro := RoIn.own 0 rfl)
  rintro _ _ ⟨rfl, rfl⟩
  refine aG ?_
  repeat refine gh hd ?_
  refine aC (o := hS) (h := ?_)
  rintro _ _ ⟨H2, rfl, hq⟩
  refine aG ?_
  obtain ⟨ac, cc, bd, ba, bs, al, cl, Hq', rfl, hq2⟩ := hfin q H2 hq
  refine spl2 rfl ?_
  refine aG ?_
  simp only [plCells, e2] at hq2 ⊢
  repeat refine gx ?_
  refine W.groupV [0, 0] rfl ?_
  refine fin0 _ _ (FinOk.first 1 .nil rfl ?_)
  rw [if_neg hd]
  exact ⟨_, rfl, hq2⟩
end Go.Proofs.YtfpghdcjdnifcaaGreat
namespace Go.Proofs.YtfpghdcjdnifcaaGreat
open Go Go.Sl Go.IntWalk
set_option maxHeartbeats 8000000
set_option maxRecDepth 20000
set_option linter.unusedVariables false
end Go.Proofs.YtfpghdcjdnifcaaGreat
namespace Go.Proofs.YtfpghdcjdnifcaaGreat
open Go Go.Sl Go.IntWalk
set_option maxHeartbeats 8000000
set_option maxRecDepth 20000
set_option linter.unusedVariables false
end Go.Proofs.YtfpghdcjdnifcaaGreat
namespace Go.Proofs.YtfpghdcjdnifcaaGreat
open Go Go.Sl Go.IntWalk
set_option maxHeartbeats 8000000
set_option maxRecDepth 20000
set_option linter.unusedVariables false
end Go.Proofs.YtfpghdcjdnifcaaGreat
namespace Go.Proofs.YtfpghdcjdnifcaaGreat
open Go Go.Sl Go.IntWalk
set_option maxHeartbeats 8000000
set_option maxRecDepth 20000
set_option linter.unusedVariables false
theorem DocTe.mk' {dp : Nat} {e : Te} {l1 : List Value} {v18 v19 v20 v21 v22 v23 v24 : Value} {D : HL} (h1 : DocT dp e.t l1 D) (h2 : DocD e.d (.agg #[v18, v19, v20]) D) (h3 : DocS e.fl (.agg #[v21, v22]) D) (h4 : DocS e.kp (.agg #[v23, v24]) D) : DocTe dp e (l1 ++ [v18, v19, v20, v21, v22, v23, v24]) D :=
 ⟨l1, [v18, v19, v20], [v21, v22], [v23, v24], rfl, h1, h2, h3, h4⟩
end Go.Proofs.YtfpghdcjdnifcaaGreat
namespace Go.Proofs.YtfpghdcjdnifcaaGreat
open Go Go.Sl Go.IntWalk
set_option maxHeartbeats 8000000
set_option maxRecDepth 20000
set_option linter.unusedVariables false
end Go.Proofs.YtfpghdcjdnifcaaGreat
namespace Go.Proofs.YtfpghdcjdnifcaaGreat
open Go Go.Sl Go.IntWalk
set_option maxHeartbeats 8000000
set_option maxRecDepth 20000
set_option linter.unusedVariables false
end Go.Proofs.YtfpghdcjdnifcaaGreat
namespace Go.Proofs.YtfpghdcjdnifcaaGreat
open Go Go.Sl Go.IntWalk
set_option maxHeartbeats 8000000
set_option maxRecDepth 20000
set_option linter.unusedVariables false
theorem tell_out (t : Tn) (x : Re) (tick : Int) : ∀ r ∈ (t.tell x tick).out, r ∈ t.out ∨ r.tick = tick := by
 unfold Tn.tell
 split
 ·
  intro r hr
  rcases List.mem_append.1 hr with hr | hr
  · exact .inl hr
  · rw [List.mem_singleton.1 hr]; exact .inr rfl
 · exact fun r hr => .inl hr
theorem begun_out (t : Tn) (tick : Int) : ∀ r ∈ (t.begun tick).out, r ∈ t.out ∨ r.tick = tick := fun r hr => tell_out ({ t with m := (mBegin t.m t.p (t.js.headD noJob).2).1, p := (mBegin t.m t.p (t.js.headD noJob).2).2.1 } : Tn) _ tick r hr
theorem run_out (tick : Int) : ∀ (n : Nat) (t : Tn), ∀ r ∈ (t.run tick n).out, r ∈ t.out ∨ r.tick = tick
 | 0, t, r, hr => .inl hr
 | n + 1, t, r, hr => by
  unfold Tn.run at hr
  split at hr
  ·
   rcases run_out tick n _ r hr with h | h
   · exact begun_out t tick r h
   · exact .inr h
  · exact .inl hr
theorem submit_out (d : Nat) (t : Tn) (q : Rq) (tick : Int) : ∀ r ∈ (t.submit d q tick).1.out, r ∈ t.out ∨ r.tick = tick := by
 unfold Tn.submit
 split
 · exact fun r hr => .inl hr
 ·
  split
  · exact fun r hr => .inl hr
  · exact fun r hr => run_out tick _ ({ t with js := t.js ++ [(t.ids + 1, q)], ids := t.ids + 1 } : Tn) r hr
theorem over_out (t : Tn) (e : Int) (bs : List Int) (tick : Int) : ∀ r ∈ (t.over e bs tick).out, r ∈ t.out ∨ r.tick = tick := fun r hr => by
 unfold Tn.over at hr
 rcases run_out tick _ _ r hr with h | h
 · exact tell_out ({ t with m := (mEnd t.m t.p e bs).1, p := (mEnd t.m t.p e bs).2.1 } : Tn) _ tick r h
 · exact .inr h
theorem serve_out (e : Te) (now : Int) : ∀ r ∈ (e.serve now).t.out, r ∈ e.t.out ∨ r.tick = now := by
 unfold Te.serve
 split
 · exact fun r hr => .inl hr
 ·
  unfold Te.stp
  split
  · exact over_out _ _ _ _
  ·
   split
   · exact over_out _ _ _ _
   · split <;> exact over_out _ _ _ _
def Told (p : Pl) (S : Nat → List Int) : Prop := ∀ (i : Nat) (e : Te), p.l[i]? = some e → ∀ r ∈ e.t.out, r.tick % (p.l.length : Int) = (i : Int) ∨ r.tick ∈ S i
theorem Told.mono {p : Pl} {S S' : Nat → List Int} (h : Told p S) (hs : ∀ i x, x ∈ S i → x ∈ S' i) : Told p S' := fun i e he r hr => (h i e he r hr).imp id (hs i _)
theorem Told.setE {p : Pl} {S : Nat → List Int} (h : Told p S) {i : Nat} (hi : i < p.l.length) {e' : Te} (he : ∀ r ∈ e'.t.out, r ∈ (p.tn i).t.out ∨ (r.tick % (p.l.length : Int) = (i : Int) ∨ r.tick ∈ S i)) : Told (p.setE i e') S := fun j e hj r hr => by
 rw [setE_len]
 rcases setE_get hi e' hj with ⟨rfl, rfl⟩ | ⟨-, g⟩
 ·
  rcases he r hr with h1 | h1
  · exact h j _ (by rw [Pl.tn_get hi]; exact List.getElem?_eq_getElem hi) r h1
  · exact h1
 · exact h j e g r hr
theorem Told.tick {p : Pl} {S : Nat → List Int} (hg : p.Inv) (h : Told p S) : Told p.tick S := by
 unfold Pl.tick
 split
 ·
  obtain ⟨j, hj, hlt⟩ := own_lt hg
  have h2 := hj
  unfold Pl.own at h2
  rw [hj]
  exact Told.setE (p := p) h hlt fun r hr => (serve_out _ _ r hr).imp id fun h3 => .inl (by rw [h3, h2])
 ·
  unfold Pl.ready
  split
  · exact h
  · split <;> exact h
theorem Told.turn {p : Pl} {S : Nat → List Int} (h : Told p S) (i page k place : Int) (by_ : Nat) : Told (p.turn i page k place by_).1 S := by
 unfold Pl.turn
 split
 · exact h
 ·
  rename_i h0
  obtain ⟨j, rfl, hj⟩ := (Pl.sec_in (Decidable.byContradiction h0)).1.in_nat
  exact h.setE hj fun r hr => .inl hr
theorem Told.submit {p : Pl} {S : Nat → List Int} (h : Told p S) (i : Int) (q : Rq) (hs : p.in_ i → p.now ∈ S i.toNat) : Told (p.submit i q).1 S := by
 unfold Pl.submit
 split
 · exact h
 ·
  rename_i h1
  have h2 : p.in_ i := Decidable.byContradiction h1
  split
  · exact h
  ·
   obtain ⟨j, rfl, hj⟩ := h2.in_nat
   rw [setT_setE]
   exact h.setE hj fun r hr => (submit_out _ _ _ _ r hr).imp id fun h3 => .inr (by rw [h3]; exact hs h2)
theorem Told.new (c : Cf) (fs ks : List (List Bool)) (S : Nat → List Int) : Told (Pl.new c fs ks) S := fun i e he r hr => by
 obtain ⟨hi, rfl⟩ := List.getElem?_eq_some_iff.1 he
 have hi2 : i < c.ps.length := by rw [new_len] at hi; exact hi
 have h1 := new_at c fs ks i hi2
 rw [List.getElem?_eq_getElem hi] at h1
 rw [Option.some.inj h1] at hr
 cases hr
def Known (id : Int) (t : Tn) : Prop := (∃ j ∈ t.js, j.1 = id) ∨ ∃ r ∈ t.out, r.id = id
theorem Known.tell {id : Int} {t : Tn} (h : Known id t) (m : Mc) (p : Pt) (x : Re) (tick : Int) : Known id (({ t with m := m, p := p } : Tn).tell x tick) := by
 unfold Tn.tell
 split
 ·
  rcases h with ⟨j, hj, hid⟩ | ⟨r, hr, hid⟩
  ·
   cases hjs : t.js with
   | nil => rw [hjs] at hj; cases hj
   | cons y ys =>
    rw [hjs] at hj
    rcases List.mem_cons.1 hj with rfl | hj
    · exact .inr ⟨_, List.mem_append_right _ (List.mem_singleton.2 rfl), by simp only [hjs, List.headD_cons]; exact hid⟩
    · exact .inl ⟨j, by simp only [hjs, List.tail_cons]; exact hj, hid⟩
  · exact .inr ⟨r, List.mem_append_left _ hr, hid⟩
 · exact h
theorem Known.run {id : Int} (tick : Int) : ∀ (n : Nat) {t : Tn}, Known id t → Known id (t.run tick n)
 | 0, t, h => h
 | n + 1, t, h => by
  unfold Tn.run
  split
  · exact Known.run tick n (h.tell _ _ _ _)
  · exact h
theorem Known.over {id : Int} {t : Tn} (h : Known id t) (e : Int) (bs : List Int) (tick : Int) : Known id (t.over e bs tick) := Known.run tick _ (h.tell _ _ _ _)
theorem Known.serve {id : Int} {e : Te} (h : Known id e.t) (now : Int) : Known id (e.serve now).t := by
 unfold Te.serve
 split
 · exact h
 ·
  unfold Te.stp
  split
  · exact h.over ..
  ·
   split
   · exact h.over ..
   · split <;> exact h.over ..
end Go.Proofs.YtfpghdcjdnifcaaGreat
namespace Go.Proofs.YtfpghdcjdnifcaaGreat
open Go Go.Sl Go.IntWalk
set_option maxHeartbeats 8000000
set_option maxRecDepth 20000
set_option linter.unusedVariables false
structure PO where
 k : Int
 i : Int
 n : Int
 q : QD
def PO.l (o : PO) : List Value := [.int .i64 o.k, .int .i64 o.i, .int .i64 o.n, .int .i64 o.q.op, .int .i64 o.q.page, .int .i64 o.q.off, .int .i64 o.q.len, .slice o.q.b.a o.q.b.xs.length o.q.b.cap]
structure PO.Ok (o : PO) : Prop where
 k : i64s o.k
 i : i64s o.i
 n : i64s o.n
 q : o.q.Ok
 cap : o.q.b.xs.length ≤ o.q.b.cap
def kindO (k n : Int) : Int := if around k 14 < 6 then 0 else if around k 14 < 11 then 1 else if around k 14 = 11 ∧ n.tmod 3 = 0 then 2 else if around k 14 = 12 ∧ n.tmod 4 = 0 then 3 else if around k 14 = 13 then 4 else 1
def PO.kind (o : PO) : Int := kindO o.k o.n
def Pl.who (p : Pl) (i : Int) : Int := around i p.l.length
def fewQ (q : Rq) : Rq := ⟨q.op, q.page, q.off, q.len, q.data.take 34⟩
def reqP (q : Rq) (i : Int) (p : Pl) : Rq := if q.len.tmod 11 = 10 ∨ p.l.length = 0 then fewQ q else gq q (p.c.ps.getD (p.who i).toNat ⟨0, 0, 0⟩).p
def PO.rq (o : PO) (p : Pl) : Rq := reqP o.q.q o.i p
def PO.to (o : PO) (p : Pl) : Int := if o.n.tmod 13 = 12 then o.i else p.who o.i
def Pl.ticks (p : Pl) : Nat → Pl
 | 0 => p
 | n + 1 => p.tick.ticks n
theorem Pl.Good.ticks {p : Pl} (h : p.Good) : ∀ n, (p.ticks n).Good
 | 0 => h
 | n + 1 => Pl.Good.ticks h.tick n
theorem Pl.Upto.ticks {p : Pl} {m : Int} (hg : p.Good) (h : p.Upto m) : ∀ n, (p.ticks n).Upto m
 | 0 => h
 | n + 1 => Pl.Upto.ticks hg.tick (h.tick hg.inv) n
theorem tick_same (p : Pl) : p.tick.c = p.c ∧ p.tick.l.length = p.l.length ∧ p.tick.now = p.now + 1 := by
 unfold Pl.tick
 split
 · exact ⟨rfl, setE_len .., rfl⟩
 ·
  unfold Pl.ready
  split
  · exact ⟨rfl, rfl, rfl⟩
  · split <;> exact ⟨rfl, rfl, rfl⟩
theorem ticks_same : ∀ (n : Nat) (p : Pl), (p.ticks n).c = p.c ∧ (p.ticks n).l.length = p.l.length ∧ (p.ticks n).now = p.now + n
 | 0, p => ⟨rfl, rfl, by show p.now = _; omega⟩
 | n + 1, p => by
  obtain ⟨h1, h2, h3⟩ := ticks_same n p.tick
  obtain ⟨g1, g2, g3⟩ := tick_same p
  exact ⟨h1.trans g1, h2.trans g2, by show (p.tick.ticks n).now = _; rw [h3, g3]; omega⟩
theorem Told.ticks {S : Nat → List Int} : ∀ (n : Nat) {p : Pl}, p.Good → Told p S → Told (p.ticks n) S
 | 0, p, _, h => h
 | n + 1, p, hg, h => Told.ticks n hg.tick (h.tick hg.inv)
structure Same1 (i : Nat) (p q : Pl) : Prop where
 c : p.c = q.c
 len : p.l.length = q.l.length
 now : p.now = q.now
 ep : p.epoch = q.epoch
 dn : p.down = q.down
 t : p.l[i]? = q.l[i]?
theorem Same1.tn {i : Nat} {p q : Pl} (h : Same1 i p q) : p.tn i = q.tn i := by
 unfold Pl.tn
 rw [Int.toNat_natCast, List.getD_eq_getElem?_getD, List.getD_eq_getElem?_getD, h.t]
theorem setE_at (p : Pl) (i : Nat) (k : Int) (e : Te) (hk : 0 ≤ k) : (p.setE k e).l[i]? = if k = (i : Int) ∧ i < p.l.length then some e else p.l[i]? := by
 unfold Pl.setE
 simp only [List.getElem?_set]
 by_cases h : k.toNat = i
 ·
  rw [if_pos h]
  by_cases h2 : i < p.l.length
  · rw [if_pos (by omega), if_pos ⟨by omega, h2⟩]
  · rw [if_neg (by omega), if_neg (by omega), List.getElem?_eq_none (by omega)]
 · rw [if_neg h, if_neg (by omega)]
theorem Same1.setE {i : Nat} {p q : Pl} (h : Same1 i p q) {k : Int} (hk : 0 ≤ k) {e f : Te} (he : k = (i : Int) → e = f) : Same1 i (p.setE k e) (q.setE k f) := by
 refine ⟨h.c, by rw [setE_len, setE_len]; exact h.len, h.now, h.ep, h.dn, ?_⟩
 rw [setE_at _ _ _ _ hk, setE_at _ _ _ _ hk, h.len, h.t]
 by_cases h1 : k = (i : Int) ∧ i < q.l.length
 · rw [if_pos h1, if_pos h1, he h1.1]
 · rw [if_neg h1, if_neg h1]
theorem Same1.ready {i : Nat} {p q : Pl} (h : Same1 i p q) : Same1 i p.ready q.ready := by
 have hd := h.dn
 have he := h.ep
 unfold Pl.ready
 by_cases h1 : 1 < p.down
 ·
  rw [if_pos h1, if_pos (show 1 < q.down by omega)]
  exact ⟨h.c, h.len, h.now, h.ep, by simp only; omega, h.t⟩
 ·
  rw [if_neg h1, if_neg (show ¬ 1 < q.down by omega)]
  by_cases h2 : p.epoch < 1073741824
  ·
   rw [if_pos h2, if_pos (show q.epoch < 1073741824 by omega)]
   exact ⟨h.c, h.len, h.now, by simp only; omega, rfl, h.t⟩
  ·
   rw [if_neg h2, if_neg (show ¬ q.epoch < 1073741824 by omega)]
   exact ⟨h.c, h.len, h.now, h.ep, rfl, h.t⟩
theorem Same1.tick {i : Nat} {p q : Pl} (h : Same1 i p q) (hg : p.Inv) : Same1 i p.tick q.tick := by
 have hn := h.now
 have hd := h.dn
 unfold Pl.tick
 have ho : p.own = q.own := by unfold Pl.own; rw [h.now, h.len]
 obtain ⟨j, hj, hlt⟩ := own_lt hg
 by_cases h0 : p.down = 0
 ·
  rw [if_pos h0, if_pos (show q.down = 0 by omega), ← ho]
  have h2 := h.setE (k := p.own) (e := (p.tn p.own).serve p.now) (f := (q.tn p.own).serve q.now) (by omega) (fun hk => by
   rw [hk, h.tn, h.now])
  exact ⟨h2.c, h2.len, by show p.now + 1 = q.now + 1; omega, h2.ep, h2.dn, h2.t⟩
 ·
  rw [if_neg h0, if_neg (show ¬ q.down = 0 by omega)]
  have hr := h.ready
  exact ⟨hr.c, hr.len, by show p.now + 1 = q.now + 1; omega, hr.ep, hr.dn, hr.t⟩
theorem Same1.ticks {i : Nat} : ∀ (n : Nat) {p q : Pl}, p.Good → Same1 i p q → Same1 i (p.ticks n) (q.ticks n)
 | 0, p, q, _, h => h
 | n + 1, p, q, hg, h => Same1.ticks n hg.tick (h.tick hg.inv)
theorem Same1.in_ {i : Nat} {p q : Pl} (h : Same1 i p q) (k : Int) : p.in_ k ↔ q.in_ k := by unfold Pl.in_; rw [h.len]
theorem Same1.who {i : Nat} {p q : Pl} (h : Same1 i p q) (k : Int) : p.who k = q.who k := by unfold Pl.who; rw [h.len]
theorem Same1.submit {i : Nat} {p q : Pl} (h : Same1 i p q) (k : Int) {r s : Rq} (hr : k = (i : Int) → r = s) : Same1 i (p.submit k r).1 (q.submit k s).1 := by
 have hd := h.dn
 unfold Pl.submit
 by_cases h1 : p.in_ k
 ·
  rw [if_neg (show ¬ ¬ p.in_ k from fun n => n h1), if_neg (show ¬ ¬ q.in_ k from fun n => n ((h.in_ k).1 h1))]
  by_cases h0 : p.down = 0
  ·
   rw [if_neg (show ¬ p.down ≠ 0 from fun n => n h0), if_neg (show ¬ q.down ≠ 0 from fun n => n (by omega))]
   exact h.setE h1.1 (fun hk => by
    subst hk
    rw [hr rfl, h.tn, h.now, h.c])
  ·
   rw [if_pos h0, if_pos (show q.down ≠ 0 by omega)]
   exact h
 ·
  rw [if_pos h1, if_pos (fun n => h1 ((h.in_ k).2 n))]
  exact h
theorem Same1.symm {i : Nat} {p q : Pl} (h : Same1 i p q) : Same1 i q p := ⟨h.c.symm, h.len.symm, h.now.symm, h.ep.symm, h.dn.symm, h.t.symm⟩
theorem Same1.turn {i : Nat} {p q : Pl} (h : Same1 i p q) (page k place : Int) (by_ : Nat) : Same1 i (p.turn i page k place by_).1 (q.turn i page k place by_).1 := by
 have hs : p.sec i page k = q.sec i page k := by
  unfold Pl.sec
  rw [h.tn]
  by_cases h1 : p.in_ i
  · rw [if_neg (show ¬ ¬ p.in_ i from fun n => n h1), if_neg (show ¬ ¬ q.in_ i from fun n => n ((h.in_ i).1 h1))]
  · rw [if_pos (show ¬ p.in_ i from h1), if_pos (show ¬ q.in_ i from fun n => h1 ((h.in_ i).2 n))]
 unfold Pl.turn
 rw [hs, h.tn]
 split
 · exact h
 · exact h.setE (by omega) (fun _ => rfl)
theorem Same1.taken {i : Nat} {p q : Pl} (h : Same1 i p q) {k : Int} (hk : 0 ≤ k) : Same1 i (p.taken k) (q.taken k) := h.setE hk (fun hk => by rw [hk, h.tn])
end Go.Proofs.YtfpghdcjdnifcaaGreat
namespace Go.Proofs.YtfpghdcjdnifcaaGreat
open Go Go.Sl Go.IntWalk
set_option maxHeartbeats 8000000
set_option maxRecDepth 20000
set_option linter.unusedVariables false
end Go.Proofs.YtfpghdcjdnifcaaGreat
namespace Go.Proofs.YtfpghdcjdnifcaaGreat
open Go Go.Sl Go.IntWalk
set_option maxHeartbeats 8000000
set_option maxRecDepth 20000
set_option linter.unusedVariables false
end Go.Proofs.YtfpghdcjdnifcaaGreat
namespace Go.Proofs.YtfpghdcjdnifcaaGreat
open Go Go.Sl Go.IntWalk
set_option maxHeartbeats 8000000
set_option maxRecDepth 20000
set_option linter.unusedVariables false
end Go.Proofs.YtfpghdcjdnifcaaGreat
namespace Go.Proofs.YtfpghdcjdnifcaaGreat
open Go Go.Sl Go.IntWalk
set_option maxHeartbeats 8000000
set_option maxRecDepth 20000
set_option linter.unusedVariables false
theorem GtAt.pool {g : Gt} {b : Nat} {H : HL} (h : GtAt g b H) : ∃ (bx bp : Nat) (ep : Int) (al : Option Addr) (n cl : Nat) (Hp Z : HL), H = [(b, Obj.cells (List.toArray [.pointer (some ⟨bx, 0, none⟩)]) 138 (0, 0))] ++ ([(bx, Obj.cells (List.toArray (inCells bp ep al n cl)) 136 (0, 0))] ++ (Hp ++ Z)) ∧ PlAt g.p bp Hp := by
 obtain ⟨bx, Hx, rfl, ha⟩ := h
 obtain ⟨bp, ep, al, n, cl, Hp, Z, rfl, hp⟩ := ha.pool
 exact ⟨bx, bp, ep, al, n, cl, Hp, Z, rfl, hp⟩
end Go.Proofs.YtfpghdcjdnifcaaGreat
namespace Go.Proofs.YtfpghdcjdnifcaaGreat
open Go Go.Sl Go.IntWalk
set_option maxHeartbeats 8000000
set_option maxRecDepth 20000
set_option linter.unusedVariables false
theorem rout_spec (n lo hi : Int) : Ctr Tryz.prog 125 [.int .i64 n, .int .i64 lo, .int .i64 hi] [] [] (fun v L' => v = .bool (decide (¬ (lo ≤ n ∧ n ≤ hi))) ∧ L' = []) := by
 refine Ctr.enter (n := 15) [.tmp 6] [(0, _), (1, _), (2, _)] Tryz.func125 rfl rfl rfl (lb rfl) Tryz.call125 ⟨rfl, rfl, rfl, trivial⟩ ?_
 intro cx fin fin0
 refine aG ?_
 by_cases h : n < lo
 ·
  repeat (first | refine gh h ?_ | refine gN fun _ => ?_ | refine gB fun _ => ?_ | fail)
  refine W.ret (fin _ _ (FinOk.first 0 (.tmp rfl .nil) rfl ?_))
  exact ⟨by simp [pack]; omega, rfl⟩
 ·
  repeat (first | refine gh h ?_ | refine gN fun _ => ?_ | refine gB fun _ => ?_ | fail)
  refine W.ret (fin _ _ (FinOk.first 0 (.tmp rfl .nil) rfl ?_))
  exact ⟨by simp [pack]; omega, rfl⟩
theorem rhasP_spec (x : Cp) (hx : x.Fit) (s : Int) : Ctr Tryz.prog 126 [x.v, .int .i64 s] [] [] (fun v L' => v = .bool (decide (x.has s)) ∧ L' = []) := by
 obtain ⟨q, b, p⟩ := x
 unfold Cp.Fit at hx
 unfold Cp.has Cp.to
 simp only [Cp.v] at *
 refine Ctr.enter (n := 19) [.tmp 4] [(0, _), (1, _)] Tryz.func126 rfl rfl rfl (lb rfl) Tryz.call126 ⟨rfl, rfl, trivial⟩ ?_
 intro cx fin fin0
 refine aG ?_
 repeat (first | refine gx ?_ | refine gN fun _ => ?_ | refine gB fun _ => ?_ | fail)
 by_cases h : b ≤ s
 ·
  repeat (first | refine gh h ?_ | refine gN fun _ => ?_ | refine gB fun _ => ?_ | fail)
  refine aV (OpVal.mul rfl rfl (i64_in _ (by omega))) ?_
  repeat (first | refine gh h ?_ | refine gN fun _ => ?_ | refine gB fun _ => ?_ | fail)
  refine W.order [] rfl ?_
  refine W.ret (fin _ _ (FinOk.first 0 (.tmp rfl .nil) rfl ?_))
  exact ⟨by simp [pack, h]; omega, rfl⟩
 ·
  repeat (first | refine gh h ?_ | refine gN fun _ => ?_ | refine gB fun _ => ?_ | fail)
  refine W.order [] rfl ?_
  refine W.ret (fin _ _ (FinOk.first 0 (.tmp rfl .nil) rfl ?_))
  exact ⟨by simp [pack, h], rfl⟩
theorem ups {c : Cf} {i : Nat} (h : c.Upto i) {j : Nat} (hj : j < i) (hl : j < c.ps.length) : (c.ps[j]).Ok c.se := h.1 _ (List.mem_take_iff_getElem.2 ⟨j, by omega, rfl⟩)
theorem RefCheck_spec (c : Cf) (hin : c.In) (hps : c.ps.length ≤ 9223372036854775807) (a : Option Addr) (cap : Nat) (ro : HL) (hro : RoSl 3 (cps c.ps) a c.ps.length ro) :
  Ctr Tryz.prog 69 [c.v a cap] [] ro (fun v L' => ∃ s i, v = .tuple #[.string s, .int .i64 i] ∧ L' = [] ∧ ((c.Ok ∧ s = ⟨#[]⟩) ∨ (¬ c.Ok ∧ (s.toList == (⟨#[]⟩ : ByteArray).toList) = false))) := by
 have k1 := rout_spec c.ps.length 1 16
 have k2 := rout_spec c.fr 1 64
 have k3 := rout_spec c.dp 1 8
 have k4 := rout_spec c.se 1 1024
 rw [Cf.ok_iff]
 have hap := fun (n : Nat) (h : n < c.ps.length) hu ho => apart_all (c := c) h hu ho
 have hus := fun (n : Nat) (h : n < c.ps.length) => Cf.upto_succ (c := c) h
 have hup := fun (i : Nat) (h : c.Upto i) (j : Nat) => ups h (j := j)
 have hle := fun (m n : Nat) (h : c.Upto n) => Cf.Upto.le (m := m) h
 have hu0 := Cf.Upto.zero c
 have hupm := fun (i : Nat) (h : c.Upto i) => h.1
 obtain ⟨fr, dp, se, ps⟩ := c
 generalize hU : Cf.Upto ⟨fr, dp, se, ps⟩ = U at *
 simp only at *
 refine Ctr.enter (n := 86) [.tmp 2, .tmp 3] [(0, _)] Tryz.func69 rfl rfl rfl (lb rfl) Tryz.call69 ⟨rfl, trivial⟩ ?_
 intro cx fin fin0
 refine aG ?_
 repeat (first | refine gx ?_ | refine gN fun _ => ?_ | refine gB fun _ => ?_ | fail)
 rename_i b1
 refine aC (o := k1) (h := ?_)
 rintro _ _ ⟨rfl, rfl⟩
 refine aG ?_
 rcases Classical.em (1 ≤ (ps.length : Int) ∧ (ps.length : Int) ≤ 16) with g1 | g1
 case' inr =>
  repeat (first | refine gh g1 ?_ | refine gN fun _ => ?_ | refine gB fun _ => ?_ | fail)
  refine W.order [] rfl ?_
  refine W.ret (fin _ _ (FinOk.first 0 (.tmp rfl (.tmp rfl .nil)) rfl ?_))
  exact ⟨_, _, rfl, rfl, .inr ⟨fun h => g1 (by have := h.1; omega), by kernel_rfl⟩⟩
 repeat (first | refine gh g1 ?_ | refine gN fun _ => ?_ | refine gB fun _ => ?_ | fail)
 refine aC (o := k2) (h := ?_)
 rintro _ _ ⟨rfl, rfl⟩
 refine aG ?_
 rcases Classical.em (1 ≤ fr ∧ fr ≤ 64) with g2 | g2
 case' inr =>
  repeat (first | refine gh g2 ?_ | refine gN fun _ => ?_ | refine gB fun _ => ?_ | fail)
  refine W.order [] rfl ?_
  refine W.ret (fin _ _ (FinOk.first 0 (.tmp rfl (.tmp rfl .nil)) rfl ?_))
  exact ⟨_, _, rfl, rfl, .inr ⟨fun h => g2 h.2.1, by kernel_rfl⟩⟩
 repeat (first | refine gh g2 ?_ | refine gN fun _ => ?_ | refine gB fun _ => ?_ | fail)
 refine aC (o := k3) (h := ?_)
 rintro _ _ ⟨rfl, rfl⟩
 refine aG ?_
 rcases Classical.em (1 ≤ dp ∧ dp ≤ 8) with g3 | g3
 case' inr =>
  repeat (first | refine gh g3 ?_ | refine gN fun _ => ?_ | refine gB fun _ => ?_ | fail)
  refine W.order [] rfl ?_
  refine W.ret (fin _ _ (FinOk.first 0 (.tmp rfl (.tmp rfl .nil)) rfl ?_))
  exact ⟨_, _, rfl, rfl, .inr ⟨fun h => g3 h.2.2.1, by kernel_rfl⟩⟩
 repeat (first | refine gh g3 ?_ | refine gN fun _ => ?_ | refine gB fun _ => ?_ | fail)
 refine aC (o := k4) (h := ?_)
 rintro _ _ ⟨rfl, rfl⟩
 refine aG ?_
 rcases Classical.em (1 ≤ se ∧ se ≤ 1024) with g4 | g4
 case' inr =>
  repeat (first | refine gh g4 ?_ | refine gN fun _ => ?_ | refine gB fun _ => ?_ | fail)
  refine W.order [] rfl ?_
  refine W.ret (fin _ _ (FinOk.first 0 (.tmp rfl (.tmp rfl .nil)) rfl ?_))
  exact ⟨_, _, rfl, rfl, .inr ⟨fun h => g4 h.2.2.2.1, by kernel_rfl⟩⟩
 repeat (first | refine gh g4 ?_ | refine gN fun _ => ?_ | refine gB fun _ => ?_ | fail)
 refine aLp (fun k ρ1 L1 => ∃ i : Nat, i ≤ ps.length ∧ U i ∧ k = ps.length - i ∧ ρ1 = [(5, .int .i64 (i : Int)), (4, .int .i64 (sumq (ps.take i))), (1, .pointer (some ⟨b1, 0, none⟩))] ∧ L1 = [[(b1, .cells #[.int .i64 fr, .int .i64 dp, .int .i64 se, .slice a ps.length cap] 24 (0, 0))]]) (o := ⟨0, Nat.zero_le _, hu0, rfl, rfl, rfl⟩) (h := ?_)
 rintro k ρ1 L1 ⟨i, hi, hu, rfl, rfl, rfl⟩
 refine aG ?_
 repeat (first | refine gx ?_ | refine gN fun _ => ?_ | refine gB fun _ => ?_ | fail)
 rcases Classical.em ((i : Int) < (ps.length : Int)) with h | h
 case' inr =>
  have hil : i = ps.length := by omega
  subst hil
  rw [List.take_length]
  rcases Classical.em (sumq ps = fr) with g5 | g5
  ·
   repeat (first | refine gh (gc2 h g5) ?_ | refine gN fun _ => ?_ | refine gB fun _ => ?_ | fail)
   refine W.order [] rfl ?_
   refine W.ret (fin _ _ (FinOk.first 0 (.tmp rfl (.tmp rfl .nil)) rfl ?_))
   exact ⟨_, _, rfl, rfl, .inl ⟨⟨by omega, g2, g3, g4, hu, g5⟩, rfl⟩⟩
  ·
   repeat (first | refine gh (gc2 h g5) ?_ | refine gN fun _ => ?_ | refine gB fun _ => ?_ | fail)
   refine W.order [] rfl ?_
   refine W.ret (fin _ _ (FinOk.first 0 (.tmp rfl (.tmp rfl .nil)) rfl ?_))
   exact ⟨_, _, rfl, rfl, .inr ⟨fun h => g5 h.2.2.2.2.2, by kernel_rfl⟩⟩
 have hlt : i < ps.length := by omega
 obtain ⟨bx, ox, lx, ex, frx, rfl, rfl, hld⟩ := cps_at hro hlt
 have hbad : ¬ (ps[i]).Ok se → ∀ s, (s.toList == (⟨#[]⟩ : ByteArray).toList) = false → ∃ s' i', Value.tuple #[.string s, .int .i64 (i : Int)] = .tuple #[.string s', .int .i64 i'] ∧ ([] : List HL) = [] ∧ (((1 ≤ ps.length ∧ ps.length ≤ 16) ∧ (1 ≤ fr ∧ fr ≤ 64) ∧ (1 ≤ dp ∧ dp ≤ 8) ∧ (1 ≤ se ∧ se ≤ 1024) ∧ U ps.length ∧ (ps.map Cp.q).sum = fr) ∧ s' = ⟨#[]⟩ ∨ ¬ ((1 ≤ ps.length ∧ ps.length ≤ 16) ∧ (1 ≤ fr ∧ fr ≤ 64) ∧ (1 ≤ dp ∧ dp ≤ 8) ∧ (1 ≤ se ∧ se ≤ 1024) ∧ U ps.length ∧ (ps.map Cp.q).sum = fr) ∧ (s'.toList == (⟨#[]⟩ : ByteArray).toList) = false) :=
  fun hx s hs => ⟨s, i, rfl, rfl, .inr ⟨fun h => hx (hup _ h.2.2.2.2.1 i hlt hlt), hs⟩⟩
 have hbad2 : ¬ U (i + 1) → ∀ s, (s.toList == (⟨#[]⟩ : ByteArray).toList) = false → ∃ s' i', Value.tuple #[.string s, .int .i64 (i : Int)] = .tuple #[.string s', .int .i64 i'] ∧ ([] : List HL) = [] ∧ (((1 ≤ ps.length ∧ ps.length ≤ 16) ∧ (1 ≤ fr ∧ fr ≤ 64) ∧ (1 ≤ dp ∧ dp ≤ 8) ∧ (1 ≤ se ∧ se ≤ 1024) ∧ U ps.length ∧ (ps.map Cp.q).sum = fr) ∧ s' = ⟨#[]⟩ ∨ ¬ ((1 ≤ ps.length ∧ ps.length ≤ 16) ∧ (1 ≤ fr ∧ fr ≤ 64) ∧ (1 ≤ dp ∧ dp ≤ 8) ∧ (1 ≤ se ∧ se ≤ 1024) ∧ U ps.length ∧ (ps.map Cp.q).sum = fr) ∧ (s'.toList == (⟨#[]⟩ : ByteArray).toList) = false) :=
  fun hx s hs => ⟨s, i, rfl, rfl, .inr ⟨fun h => hx (hle (i + 1) _ h.2.2.2.2.1 hlt), hs⟩⟩
 have hsq := sumq_succ hlt
 have hap2 := hap i hlt hu
 have hus2 := hus i hlt
 have j1 := rout_spec (ps[i]).q 1 64
 have j2 := rout_spec (ps[i]).p 1 64
 have j3 := rout_spec (ps[i]).b 0 (se - 2 * (ps[i]).p)
 have j4 := rhasP_spec ps[i]
 have hfit := fun (hh : (ps[i]).Ok se) => Cp.Ok.fit g4.2 hh
 have hoki : (ps[i]).Ok se ↔ (1 ≤ (ps[i]).q ∧ (ps[i]).q ≤ 64) ∧ (1 ≤ (ps[i]).p ∧ (ps[i]).p ≤ 64) ∧ (0 ≤ (ps[i]).b ∧ (ps[i]).b ≤ se - 2 * (ps[i]).p) := by
  unfold Cp.Ok Cp.to
  constructor <;> intro h <;> omega
 generalize hxi : ps[i] = x at *
 obtain ⟨xq, xb, xp⟩ := x
 simp only [Cp.v] at hld j4
 simp only at j1 j2 j3 hoki hsq
 repeat (first | refine gh h ?_ | refine gN fun _ => ?_ | refine gB fun _ => ?_ | fail)
 refine aV (OpVal.ixSl tab_ok rfl rfl rfl rfl rfl hlt) ?_
 refine aV (OpVal.load tab_ok rfl (at_ro 0 rfl) hld) ?_
 repeat (first | refine gx ?_ | refine gN fun _ => ?_ | refine gB fun _ => ?_ | fail)
 rename_i b6
 refine aC (o := j1) (h := ?_)
 rintro _ _ ⟨rfl, rfl⟩
 refine aG ?_
 rcases Classical.em (1 ≤ xq ∧ xq ≤ 64) with q1 | q1
 case' inr =>
  repeat (first | refine gh q1 ?_ | refine gN fun _ => ?_ | refine gB fun _ => ?_ | fail)
  refine W.order [] rfl ?_
  refine W.ret (fin _ _ (FinOk.first 0 (.tmp rfl (.tmp rfl .nil)) rfl ?_))
  exact hbad (fun h => q1 (hoki.1 h).1) _ (by kernel_rfl)
 repeat (first | refine gh q1 ?_ | refine gN fun _ => ?_ | refine gB fun _ => ?_ | fail)
 refine aC (o := j2) (h := ?_)
 rintro _ _ ⟨rfl, rfl⟩
 refine aG ?_
 rcases Classical.em (1 ≤ xp ∧ xp ≤ 64) with q2 | q2
 case' inr =>
  repeat (first | refine gh q2 ?_ | refine gN fun _ => ?_ | refine gB fun _ => ?_ | fail)
  refine W.order [] rfl ?_
  refine W.ret (fin _ _ (FinOk.first 0 (.tmp rfl (.tmp rfl .nil)) rfl ?_))
  exact hbad (fun h => q2 (hoki.1 h).2.1) _ (by kernel_rfl)
 repeat (first | refine gh q2 ?_ | refine gN fun _ => ?_ | refine gB fun _ => ?_ | fail)
 refine aV (OpVal.mul rfl rfl (i64_in _ (by omega))) ?_
 repeat (first | refine gh q2 ?_ | refine gN fun _ => ?_ | refine gB fun _ => ?_ | fail)
 refine aC (o := j3) (h := ?_)
 rintro _ _ ⟨rfl, rfl⟩
 refine aG ?_
 rcases Classical.em (0 ≤ xb ∧ xb ≤ se - 2 * xp) with q3 | q3
 case' inr =>
  repeat (first | refine gh q3 ?_ | refine gN fun _ => ?_ | refine gB fun _ => ?_ | fail)
  refine W.order [] rfl ?_
  refine W.ret (fin _ _ (FinOk.first 0 (.tmp rfl (.tmp rfl .nil)) rfl ?_))
  exact hbad (fun h => q3 (hoki.1 h).2.2) _ (by kernel_rfl)
 have hxok := hoki.2 ⟨q1, q2, q3⟩
 have j5 := j4 (hfit hxok)
 have hap3 := hap2 hxok
 repeat (first | refine gh q3 ?_ | refine gN fun _ => ?_ | refine gB fun _ => ?_ | fail)
 refine aLp (fun k ρ1 L1 => ∃ s : Nat, (s : Int) ≤ se ∧ (∀ z : Int, 0 ≤ z → z < s → Cp.has ⟨xq, xb, xp⟩ z → ∀ m (hm : m < i), ¬ (ps[m]'(Nat.lt_trans hm hlt)).has z) ∧ k = se.toNat - s ∧ ρ1 = [(7, .int .i64 (s : Int)), (5, .int .i64 (i : Int)), (4, .int .i64 (sumq (ps.take i))), (1, .pointer (some ⟨b1, 0, none⟩)), (6, .pointer (some ⟨b6, 0, none⟩))] ∧ L1 = [[(b6, .cells #[.int .i64 xq, .int .i64 xb, .int .i64 xp] 92 (0, 0))], [(b1, .cells #[.int .i64 fr, .int .i64 dp, .int .i64 se, .slice (some ⟨bx, ox, none⟩) ps.length cap] 24 (0, 0))]]) (o := ⟨0, by omega, by intro z h1 h2; omega, rfl, rfl, rfl⟩) (h := ?_)
 rintro k ρ1 L1 ⟨s, hs, hall, rfl, rfl, rfl⟩
 refine aG ?_
 repeat (first | refine gx ?_ | refine gN fun _ => ?_ | refine gB fun _ => ?_ | fail)
 rcases Classical.em ((s : Int) < se) with hz | hz
 case' inr =>
  have hse : (s : Int) = se := by omega
  have hU1 : U (i + 1) := hus2.2 ⟨hu, hxok, hap3.2 (fun z h1 h2 h3 => hall z h1 (by omega) h3)⟩
  have hsb := sumq_bound (hupm i hu)
  have hlen : (ps.take i).length ≤ 16 := by rw [List.length_take]; omega
  repeat (first | refine gh hz ?_ | refine gN fun _ => ?_ | refine gB fun _ => ?_ | fail)
  rw [← hsq]
  refine W.order [1] rfl ?_
  refine aR (o := ⟨ps.length - (i + 1), by omega, i + 1, hlt, hU1, rfl, rfl, rfl⟩)
 repeat (first | refine gh hz ?_ | refine gN fun _ => ?_ | refine gB fun _ => ?_ | fail)
 refine aC (o := j5 s) (h := ?_)
 rintro _ _ ⟨rfl, rfl⟩
 refine aG ?_
 repeat (first | refine gx ?_ | refine gN fun _ => ?_ | refine gB fun _ => ?_ | fail)
 have hnext : (Cp.has ⟨xq, xb, xp⟩ s → ∀ m (hm : m < i), ¬ (ps[m]'(Nat.lt_trans hm hlt)).has s) → ∀ z : Int, 0 ≤ z → z < ((s + 1 : Nat) : Int) → Cp.has ⟨xq, xb, xp⟩ z → ∀ m (hm : m < i), ¬ (ps[m]'(Nat.lt_trans hm hlt)).has z := fun hh z h1 h2 h3 m hm => by
  rcases Int.lt_or_le z s with h4 | h4
  · exact hall z h1 h4 h3 m hm
  ·
   obtain rfl : z = s := by omega
   exact hh h3 m hm
 rcases Classical.em (Cp.has ⟨xq, xb, xp⟩ s) with hw | hw
 case' inr =>
  have hn := hnext (fun h => absurd h hw)
  rw [decide_eq_false hw]
  clear hnext
  refine aLp (fun k ρ1 L1 => k = 0 ∧ ρ1 = [(9, .int .i64 0), (8, .bool false), (7, .int .i64 (s : Int)), (5, .int .i64 (i : Int)), (4, .int .i64 (sumq (ps.take i))), (1, .pointer (some ⟨b1, 0, none⟩)), (6, .pointer (some ⟨b6, 0, none⟩))] ∧ L1 = [[(b6, .cells #[.int .i64 xq, .int .i64 xb, .int .i64 xp] 92 (0, 0))], [(b1, .cells #[.int .i64 fr, .int .i64 dp, .int .i64 se, .slice (some ⟨bx, ox, none⟩) ps.length cap] 24 (0, 0))]]) (o := ⟨rfl, rfl, rfl⟩) (h := ?_)
  rintro k ρ1 L1 ⟨rfl, rfl, rfl⟩
  refine aG ?_
  rcases Classical.em ((0 : Int) < (i : Int)) with hi0 | hi0
  case' inl =>
   repeat (first | refine gh hi0 ?_ | refine gN fun _ => ?_ | refine gB fun _ => ?_ | fail)
  case' inr =>
   repeat (first | refine gh hi0 ?_ | refine gN fun _ => ?_ | refine gB fun _ => ?_ | fail)
  all_goals
   refine W.order [0, 0] rfl ?_
   refine aR (o := ⟨se.toNat - (s + 1), by omega, s + 1, by omega, hn, rfl, rfl, rfl⟩)
 rw [decide_eq_true hw]
 refine aLp (fun k ρ1 L1 => ∃ m : Nat, m ≤ i ∧ (∀ n (hn : n < i), n < m → ¬ (ps[n]'(Nat.lt_trans hn hlt)).has s) ∧ k = i - m ∧ ρ1 = [(9, .int .i64 (m : Int)), (8, .bool true), (7, .int .i64 (s : Int)), (5, .int .i64 (i : Int)), (4, .int .i64 (sumq (ps.take i))), (1, .pointer (some ⟨b1, 0, none⟩)), (6, .pointer (some ⟨b6, 0, none⟩))] ∧ L1 = [[(b6, .cells #[.int .i64 xq, .int .i64 xb, .int .i64 xp] 92 (0, 0))], [(b1, .cells #[.int .i64 fr, .int .i64 dp, .int .i64 se, .slice (some ⟨bx, ox, none⟩) ps.length cap] 24 (0, 0))]]) (o := ⟨0, Nat.zero_le _, by intro n _ h; omega, rfl, rfl, rfl⟩) (h := ?_)
 rintro k ρ1 L1 ⟨m, hm, hno, rfl, rfl, rfl⟩
 refine aG ?_
 rcases Classical.em ((m : Int) < (i : Int)) with hmz | hmz
 case' inr =>
  have hn := hnext (fun _ n hn => hno n hn (by omega))
  repeat (first | refine gh hmz ?_ | refine gN fun _ => ?_ | refine gB fun _ => ?_ | fail)
  refine W.order [0, 0] rfl ?_
  refine aR (o := ⟨se.toNat - (s + 1), by omega, s + 1, by omega, hn, rfl, rfl, rfl⟩)
 have hml : m < ps.length := by omega
 obtain ⟨bx', ox', lx', ex', frx', hb', hr', hld'⟩ := cps_at hro hml
 cases hb'
 cases hr'
 have hH := rhasP_spec ps[m] ((hup i hu m (by omega) hml).fit g4.2) s
 have hstop : (ps[m]).has s → ¬ U (i + 1) := fun h hU2 => by
  have h1 := hap3.1 (hus2.1 hU2).2.2 s (by omega) hz hw m (by omega)
  exact h1 h
 have hcont : ¬ (ps[m]).has s → ∀ n (hn : n < i), n < m + 1 → ¬ (ps[n]'(Nat.lt_trans hn hlt)).has s := fun h n hn hn2 => by
  rcases Nat.lt_or_ge n m with h4 | h4
  · exact hno n hn h4
  ·
   obtain rfl : n = m := by omega
   exact h
 generalize ps[m] = y at *
 repeat (first | refine gh hmz ?_ | refine gN fun _ => ?_ | refine gB fun _ => ?_ | fail)
 refine aV (OpVal.ixSl tab_ok rfl rfl rfl rfl rfl hml) ?_
 refine aV (OpVal.load tab_ok rfl (at_ro 0 rfl) hld') ?_
 repeat (first | refine gx ?_ | refine gN fun _ => ?_ | refine gB fun _ => ?_ | fail)
 refine aC (o := hH) (h := ?_)
 rintro _ _ ⟨rfl, rfl⟩
 refine aG ?_
 rcases Classical.em (y.has s) with hys | hys
 ·
  have hst := hbad2 (hstop hys)
  repeat (first | refine gh hys ?_ | refine gN fun _ => ?_ | refine gB fun _ => ?_ | fail)
  refine W.order [] rfl ?_
  refine W.ret (fin _ _ (FinOk.first 0 (.tmp rfl (.tmp rfl .nil)) rfl ?_))
  exact hst _ (by kernel_rfl)
 ·
  have hc := hcont hys
  repeat (first | refine gh hys ?_ | refine gN fun _ => ?_ | refine gB fun _ => ?_ | fail)
  refine aR (o := ⟨i - (m + 1), by omega, m + 1, by omega, hc, rfl, rfl, rfl⟩)
theorem RefMay_spec (c : Cf) (hin : c.In) (hps : c.ps.length ≤ 9223372036854775807) (a : Option Addr) (cap : Nat) (ro : HL) (hro : RoSl 3 (cps c.ps) a c.ps.length ro) :
  Ctr Tryz.prog 18 [c.v a cap] [] ro (fun v L' => ∃ b, v = .bool b ∧ L' = [] ∧ (b = true ↔ c.Ok)) := by
 have hC := RefCheck_spec c hin hps a cap ro hro
 obtain ⟨fr, dp, se, ps⟩ := c
 simp only [Cf.v] at *
 refine Ctr.enter (n := 12) [.tmp 2] [(0, _)] Tryz.func18 rfl rfl rfl (lb rfl) Tryz.call18 ⟨rfl, trivial⟩ ?_
 intro cx fin fin0
 refine aG ?_
 repeat (first | refine gx ?_ | refine gN fun _ => ?_ | refine gB fun _ => ?_ | fail)
 refine aC (o := hC) (h := ?_)
 rintro _ _ ⟨s, i, rfl, rfl, hs⟩
 refine aG ?_
 repeat (first | refine gx ?_ | refine gN fun _ => ?_ | refine gB fun _ => ?_ | fail)
 refine aV (OpVal.eqStr rfl rfl) ?_
 repeat (first | refine gx ?_ | refine gN fun _ => ?_ | refine gB fun _ => ?_ | fail)
 refine W.order [] rfl ?_
 refine W.ret (fin _ _ (FinOk.first 0 (.tmp rfl .nil) rfl ?_))
 refine ⟨_, rfl, rfl, ?_⟩
 rcases hs with ⟨h, rfl⟩ | ⟨h, hs⟩
 · exact ⟨fun _ => h, fun _ => noStr⟩
 · rw [hs]; exact ⟨fun h => (by cases h), fun h2 => absurd h2 h⟩
def Cf.few (c : Cf) : Cf := ⟨c.fr, c.dp, c.se, c.ps.take 5⟩
theorem few_in {c : Cf} (h : c.In) : c.few.In := ⟨h.fr, h.dp, h.se, fun x hx => h.ps x (List.mem_of_mem_take hx)⟩
def CfOut (c : Cf) (v : Value) (L' : List HL) : Prop := ∃ a cap H, v = c.v a cap ∧ L' = [H] ∧ Own 3 92 (cps c.ps) a c.ps.length cap H
theorem RefFew_spec (c : Cf) (hps : c.ps.length ≤ 9223372036854775807) (a : Option Addr) (cap : Nat) (hcap : c.ps.length ≤ cap) (ro : HL) (hro : RoSl 3 (cps c.ps) a c.ps.length ro) :
  Ctr Tryz.prog 15 [c.v a cap] [] ro (CfOut c.few) := by
 have hr5 : RoSl 3 (cps (c.ps.take 5)) a (c.ps.take 5).length ro := by
  rcases Nat.lt_or_ge c.ps.length 5 with h | h
  · rw [List.take_of_length_le (by omega)]; exact hro
  · rw [List.length_take, Nat.min_eq_left h]; exact RoSl.take (f := Cp.l) (m := 3) (fun _ => rfl) hro 5 h
 have hmin : (if (5 : Int) < (c.ps.length : Int) then (5 : Int) else (c.ps.length : Int)) = ((c.ps.take 5).length : Int) := by rw [List.length_take]; split <;> omega
 have hl5 : (c.ps.take 5).length ≤ 5 := by rw [List.length_take]; omega
 have hlc : (c.ps.take 5).length ≤ cap := by rw [List.length_take]; omega
 unfold Cf.few
 obtain ⟨fr, dp, se, ps⟩ := c
 simp only at *
 generalize ps.take 5 = p5 at *
 refine Ctr.enter (n := 16) [.cell 2 24] [(0, _)] Tryz.func15 rfl rfl rfl (lb rfl) Tryz.call15 ⟨rfl, trivial⟩ ?_
 intro cx fin fin0
 refine aG ?_
 repeat (first | refine gx ?_ | refine gN fun _ => ?_ | refine gB fun _ => ?_ | fail)
 refine aV (OpVal.min2 rfl rfl) ?_
 rw [hmin]
 refine aV (OpVal.front tab_ok rfl rfl rfl rfl rfl hlc) ?_
 refine W.nilChunk ?_
 refine aPr (appRo tab_ok rfl rfl rfl (Own.nil 3 _) (by intro p hp; cases hp) rfl hr5 (fun q hq => .inr hq) (cps_one _) (by omega) (by omega)) ?_
 rintro _ _ ⟨a2, c2, H2, rfl, rfl, ho⟩
 refine aG ?_
 rw [List.nil_append, Nat.zero_add p5.length] at ho
 rw [Nat.zero_add p5.length]
 repeat (first | refine gx ?_ | refine gN fun _ => ?_ | refine gB fun _ => ?_ | fail)
 refine W.order [0, 0] rfl ?_
 refine W.ret (fin _ _ (FinOk.first 1 (aRc .nil) rfl ?_))
 exact ⟨_, _, _, rfl, rfl, ho⟩
theorem gparts_snoc : ∀ (l : List Cp) (a : Int) (x : Cp), gparts a (l ++ [x]) = gparts a l ++ [gpart (gat a l) x] ∧ gat a (l ++ [x]) = (gpart (gat a l) x).to
 | [], a, x => ⟨rfl, rfl⟩
 | y :: l, a, x => by
  obtain ⟨h1, h2⟩ := gparts_snoc l (gpart a y).to x
  exact ⟨by rw [List.cons_append, gparts, h1]; rfl, by rw [List.cons_append, gat, h2]; rfl⟩
theorem RefGood_spec (c : Cf) (hin : c.In) (hps : c.ps.length ≤ 9223372036854775807) (a : Option Addr) (cap : Nat) (hcap : c.ps.length ≤ cap) (ro : HL) (hro : RoSl 3 (cps c.ps) a c.ps.length ro) :
  Ctr Tryz.prog 16 [c.v a cap] [] ro (CfOut (gcf c)) := by
 have hr4 : RoSl 3 (cps (c.ps.take 4)) a (c.ps.take 4).length ro := by
  rcases Nat.lt_or_ge c.ps.length 4 with h | h
  · rw [List.take_of_length_le (by omega)]; exact hro
  · rw [List.length_take, Nat.min_eq_left h]; exact RoSl.take (f := Cp.l) (m := 3) (fun _ => rfl) hro 4 h
 have hmin : (if (4 : Int) < (c.ps.length : Int) then (4 : Int) else (c.ps.length : Int)) = ((c.ps.take 4).length : Int) := by rw [List.length_take]; split <;> omega
 have hlc : (c.ps.take 4).length ≤ cap := by rw [List.length_take]; omega
 have hl4 : (c.ps.take 4).length ≤ 4 := by rw [List.length_take]; omega
 have hgb : gbase c = if c.ps.take 4 = [] then [⟨0, 0, 0⟩] else c.ps.take 4 := rfl
 have hin4 : ∀ x ∈ c.ps.take 4, x.In := fun x hx => hin.ps x (List.mem_of_mem_take hx)
 have hA1 := Around_spec c.dp 4 hin.dp (by decide)
 have hA2 := Around_spec c.se 3 hin.se (by decide)
 have r1 := around_range c.dp 4 (by decide)
 have r2 := around_range c.se 3 (by decide)
 have hgc : gcf c = ⟨sumq (gparts 0 (gbase c)), 1 + around c.dp 4, gat 0 (gbase c) + around c.se 3, gparts 0 (gbase c)⟩ := rfl
 rw [hgc]
 generalize gbase c = gb at *
 obtain ⟨fr, dp, se, ps⟩ := c
 simp only at *
 generalize ps.take 4 = p4 at *
 generalize around dp 4 = ad at *
 generalize around se 3 = as_ at *
 refine Ctr.enter (n := 79) [.cell 2 24] [(0, _)] Tryz.func16 rfl rfl rfl (lb rfl) Tryz.call16 ⟨rfl, trivial⟩ ?_
 intro cx fin fin0
 refine aG ?_
 repeat (first | refine gx ?_ | refine gN fun _ => ?_ | refine gB fun _ => ?_ | fail)
 rename_i b1 b2
 refine aV (OpVal.min2 rfl rfl) ?_
 rw [hmin]
 refine aV (OpVal.front tab_ok rfl rfl rfl rfl rfl hlc) ?_
 repeat (first | refine gx ?_ | refine gN fun _ => ?_ | refine gB fun _ => ?_ | fail)
 refine W.cut (fun ρ1 L1 => ∃ (al : Option Addr) (cl : Nat) (Hg : HL), 1 ≤ gb.length ∧ gb.length ≤ 4 ∧ (∀ x ∈ gb, x.In) ∧ (∃ r, RoSl 3 (cps gb) al gb.length r ∧ ∀ q ∈ r, q ∈ Hg ∨ q ∈ ro) ∧ ρ1 = [(3, .slice al gb.length cl), (1, .pointer (some ⟨b1, 0, none⟩)), (2, .pointer (some ⟨b2, 0, none⟩))] ∧ L1 = [Hg, [(b2, .cells #[.int .i64 0, .int .i64 0, .int .i64 0, .slice none 0 0] 24 (0, 0))], [(b1, .cells #[.int .i64 fr, .int .i64 dp, .int .i64 se, .slice a ps.length cap] 24 (0, 0))]]) ?_ ?_ trivial
 ·
  rcases Classical.em ((p4.length : Int) = 0) with h0 | h0
  ·
   have hp4 : p4 = [] := List.eq_nil_of_length_eq_zero (by omega)
   rw [if_pos hp4] at hgb
   subst hgb
   repeat (first | refine gh h0 ?_ | refine gN fun _ => ?_ | refine gB fun _ => ?_ | fail)
   refine aBu (ps := []) ?_
   refine aSl (ps := [_]) ?_
   intro bt
   refine aG ?_
   repeat (first | refine gx ?_ | refine gN fun _ => ?_ | refine gB fun _ => ?_ | fail)
   refine aR (o := ⟨_, _, _, by decide, by decide, (by intro x hx; rw [List.mem_singleton.1 hx]; exact ⟨⟨by decide, by decide⟩, ⟨by decide, by decide⟩, ⟨by decide, by decide⟩⟩), ⟨_, ⟨rfl, .inr ⟨bt, 0, _, _, _, rfl, rfl, Nat.le_refl _, rfl⟩⟩, by intro q hq; exact .inl hq⟩, rfl, rfl⟩)
  ·
   have hp4 : ¬ p4 = [] := fun h => h0 (by rw [h]; rfl)
   rw [if_neg hp4] at hgb
   subst hgb
   repeat (first | refine gh h0 ?_ | refine gN fun _ => ?_ | refine gB fun _ => ?_ | fail)
   refine W.nilChunk ?_
   refine aR (o := ⟨_, _, _, by omega, hl4, hin4, ⟨ro, hr4, by intro q hq; exact .inr hq⟩, rfl, rfl⟩)
 clear hgb hmin hlc hl4 hin4 hr4
 rintro ρ1 L1 ⟨al, cl, Hg, hg1, hg4, hgin, ⟨r, hr, hrs⟩, rfl, rfl⟩
 obtain ⟨hp1, hp2, hp3, hp5, hp6⟩ := gparts_ok gb 0 (by decide)
 refine aG ?_
 repeat (first | refine gx ?_ | refine gN fun _ => ?_ | refine gB fun _ => ?_ | fail)
 refine aC (o := hA1) (h := ?_)
 rintro _ _ ⟨rfl, rfl⟩
 refine aG ?_
 refine aV (OpVal.add rfl rfl (i64_in _ (by omega))) ?_
 refine aBu (ps := [_]) ?_
 repeat (first | refine gx ?_ | refine gN fun _ => ?_ | refine gB fun _ => ?_ | fail)
 rename_i b4
 refine W.nilChunk ?_
 refine aLp (fun k ρ1 L1 => ∃ (j : Nat) (gs : List Cp) (ag : Option Addr) (cg : Nat) (Hq : HL), j ≤ gb.length ∧ k = gb.length - j ∧ gs = gparts 0 (gb.take j) ∧ Own 3 92 (cps gs) ag gs.length cg Hq ∧ ρ1 = [(6, .int .i64 (j : Int)), (5, .int .i64 (gat 0 (gb.take j))), (3, .slice al gb.length cl), (1, .pointer (some ⟨b1, 0, none⟩)), (2, .pointer (some ⟨b2, 0, none⟩)), (4, .pointer (some ⟨b4, 0, none⟩))] ∧ L1 = [Hq, [(b4, .cells #[.int .i64 (sumq gs), .int .i64 (1 + ad), .int .i64 0, .slice ag gs.length cg] 24 (0, 0))], Hg, [(b2, .cells #[.int .i64 0, .int .i64 0, .int .i64 0, .slice none 0 0] 24 (0, 0))], [(b1, .cells #[.int .i64 fr, .int .i64 dp, .int .i64 se, .slice a ps.length cap] 24 (0, 0))]]) (o := ⟨0, [], none, 0, [], Nat.zero_le _, rfl, rfl, Own.nil 3 _, rfl, rfl⟩) (h := ?_)
 rintro k ρ1 L1 ⟨j, gs, ag, cg, Hq, hj, rfl, hgs, hog, rfl, rfl⟩
 refine aG ?_
 repeat (first | refine gx ?_ | refine gN fun _ => ?_ | refine gB fun _ => ?_ | fail)
 rcases Classical.em ((j : Int) < (gb.length : Int)) with hz | hz
 ·
  have hlt : j < gb.length := by omega
  obtain ⟨bx, ox, lx, ex, frx, rfl, rfl, hsg, hld⟩ := RoSl.at (f := Cp.l) (m := 3) (fun _ => rfl) hr hlt
  have hnx := gparts_snoc (gb.take j) 0 gb[j]
  rw [← List.take_succ_eq_append_getElem hlt, ← hgs] at hnx
  have hxi := hgin _ (List.getElem_mem hlt)
  obtain ⟨k1, k2, k3, k4, k5⟩ := gparts_ok (gb.take j) 0 (by decide)
  have hlj : (gb.take j).length = j := by rw [List.length_take]; omega
  have hgl : gs.length ≤ 4 := by rw [hgs, k1, hlj]; omega
  have hsb : 0 ≤ sumq gs ∧ sumq gs ≤ 64 * (gs.length : Int) := sumq_bound (s := 1024) fun x hx => by
   rw [hgs] at hx
   have := k2 x hx
   have hb := hp5
   exact ⟨⟨by omega, by omega⟩, ⟨by omega, by omega⟩, by omega, by omega⟩
  have hsn : sumq (gs ++ [gpart (gat 0 (gb.take j)) gb[j]]) = sumq gs + (1 + around (gb[j]).q 3) := by simp [sumq, gpart]
  have hto : (gpart (gat 0 (gb.take j)) gb[j]).to = gat 0 (gb.take j) + around (gb[j]).b 3 + 2 * (1 + around (gb[j]).p 4) := by simp only [Cp.to, gpart]; omega
  have B1 := Around_spec (gb[j]).q 3 hxi.1 (by decide)
  have B2 := Around_spec (gb[j]).b 3 hxi.2.1 (by decide)
  have B3 := Around_spec (gb[j]).p 4 hxi.2.2 (by decide)
  have s1 := around_range (gb[j]).q 3 (by decide)
  have s2 := around_range (gb[j]).b 3 (by decide)
  have s3 := around_range (gb[j]).p 4 (by decide)
  have l0 : lx[ox + j * 3 + 0]? = some (.int .i64 (gb[j]).q) := hld 0 (by decide)
  have l1 : lx[ox + j * 3 + 1]? = some (.int .i64 (gb[j]).b) := hld 1 (by decide)
  have l2 : lx[ox + j * 3 + 2]? = some (.int .i64 (gb[j]).p) := hld 2 (by decide)
  rw [hto] at hnx
  obtain ⟨hn1, hn2⟩ := hnx
  have hgp : gpart (gat 0 (gb.take j)) gb[j] = ⟨1 + around (gb[j]).q 3, gat 0 (gb.take j) + around (gb[j]).b 3, 1 + around (gb[j]).p 4⟩ := rfl
  rw [hgp] at hn1 hsn
  obtain ⟨gs2, hgs2⟩ : ∃ gs2, gs2 = gparts 0 (gb.take (j + 1)) := ⟨_, rfl⟩
  rw [← hgs2] at hn1
  rw [← hn1] at hsn
  obtain ⟨at2, hat2⟩ : ∃ at2, at2 = gat 0 (gb.take (j + 1)) := ⟨_, rfl⟩
  rw [← hat2] at hn2
  generalize gat 0 (gb.take j) = at1 at *
  generalize around (gb[j]).q 3 = y1 at *
  generalize around (gb[j]).b 3 = y2 at *
  generalize around (gb[j]).p 4 = y3 at *
  generalize (gb[j]).q = x1 at *
  generalize (gb[j]).b = x2 at *
  generalize (gb[j]).p = x3 at *
  have hmx : (bx, Obj.cells (List.toArray lx) ex frx) ∈ Hg ∨ (bx, Obj.cells (List.toArray lx) ex frx) ∈ ro := hrs _ (List.mem_singleton.2 rfl)
  repeat (first | refine gh hz ?_ | refine gN fun _ => ?_ | refine gB fun _ => ?_ | fail)
  refine W.drawH tab_ok 24 [.b false, .b false, .b false, .b false, .b false, .b false, .b false, .b false, .b false, .b false, .b false, .b false, .b false, .b false, .b false, .b false, .b false, .b false, .b false, .b false, .b false, .b false, .b false, .f] [] follows (by decide +kernel) (by decide +kernel) rfl (by decide) rfl ?_
  intro _
  refine dG ?_
  refine gdx ?_
  refine dV (OpVal.ixSl tab_ok rfl rfl rfl rfl rfl hlt) ?_
  refine dV (OpVal.load tab_ok rfl (show At _ _ bx (.cells lx.toArray ex frx) from .inr (hmx.elim (fun h => by simp [h]) (fun h => by simp [h]))) l0) ?_
  refine dQ (o := B1) (h := ?_)
  refine gdx ?_
  refine dV (OpVal.ixSl tab_ok rfl rfl rfl rfl rfl hlt) ?_
  refine dV (OpVal.load tab_ok rfl (show At _ _ bx (.cells lx.toArray ex frx) from .inr (hmx.elim (fun h => by simp [h]) (fun h => by simp [h]))) l1) ?_
  refine dQ (o := B2) (h := ?_)
  refine gdx ?_
  refine dV (OpVal.ixSl tab_ok rfl rfl rfl rfl rfl hlt) ?_
  refine dV (OpVal.load tab_ok rfl (show At _ _ bx (.cells lx.toArray ex frx) from .inr (hmx.elim (fun h => by simp [h]) (fun h => by simp [h]))) l2) ?_
  refine dQ (o := B3) (h := ?_)
  refine gdx ?_
  refine dV (OpVal.build (ps := [_, _, _]) tab_ok rfl rfl rfl rfl (by repeat (first | exact trivial | refine ⟨⟨_, _, _, rfl, rfl, rfl⟩, ?_⟩)) rfl) ?_
  refine gdx ?_
  refine WD.float tab_ok rfl rfl (lb rfl) (dG ?_)
  refine WD.nil ?_
  intro _ _ _ e; cases e
  refine aG ?_
  repeat (first | refine gx ?_ | refine gN fun _ => ?_ | refine gB fun _ => ?_ | fail)
  refine aSl (ps := [_]) ?_
  intro bt
  refine aG ?_
  refine aAp (hog) ?_
  rintro _ _ ⟨_, _, _, rfl, rfl, ho⟩
  refine aG ?_
  have e2 : cps gs ++ [.int .i64 (1 + y1), .int .i64 (at1 + y2), .int .i64 (1 + y3)] = cps gs2 := by rw [hn1]; simp [cps, Cp.l]
  have e3 : gs.length + 1 = gs2.length := by rw [hn1, List.length_append]; rfl
  rw [e2, e3] at ho
  rw [e3]
  repeat (first | refine gx ?_ | refine gN fun _ => ?_ | refine gB fun _ => ?_ | fail)
  rw [← hsn]
  refine aV (OpVal.mul rfl rfl (i64_in _ (by omega))) ?_
  repeat (first | refine gx ?_ | refine gN fun _ => ?_ | refine gB fun _ => ?_ | fail)
  rw [← hn2, hat2]
  refine W.order [0, 2, 2, 2, 2] rfl ?_
  refine aR (o := ⟨gb.length - (j + 1), by omega, j + 1, gs2, _, _, _, by omega, rfl, hgs2, ho, rfl, rfl⟩)
 ·
  obtain rfl : j = gb.length := by omega
  rw [List.take_length] at hgs
  rw [List.take_length]
  subst hgs
  repeat (first | refine gh hz ?_ | refine gN fun _ => ?_ | refine gB fun _ => ?_ | fail)
  refine aC (o := hA2) (h := ?_)
  rintro _ _ ⟨rfl, rfl⟩
  refine aG ?_
  repeat (first | refine gx ?_ | refine gN fun _ => ?_ | refine gB fun _ => ?_ | fail)
  refine W.order [0, 2, 0] rfl ?_
  refine W.ret (fin _ _ (FinOk.first 1 (aRc .nil) rfl ?_))
  exact ⟨_, _, _, rfl, rfl, hog⟩
end Go.Proofs.YtfpghdcjdnifcaaGreat
namespace Go.Proofs.YtfpghdcjdnifcaaGreat
open Go Go.Sl Go.IntWalk
set_option maxHeartbeats 8000000
set_option maxRecDepth 20000
set_option linter.unusedVariables false
end Go.Proofs.YtfpghdcjdnifcaaGreat
namespace Go.Proofs.YtfpghdcjdnifcaaGreat
open Go Go.Sl Go.IntWalk
set_option maxHeartbeats 8000000
set_option maxRecDepth 20000
set_option linter.unusedVariables false
def cf2 : Cf := ⟨3, 2, 12, [⟨1, 0, 2⟩, ⟨2, 5, 3⟩]⟩
theorem cf2_ok : cf2.Ok := by
 refine ⟨by decide, by decide, by decide, by decide, fun x hx => ?_, ?_, by decide⟩
 ·
  simp only [cf2, List.mem_cons, List.not_mem_nil, or_false] at hx
  rcases hx with rfl | rfl <;> (unfold Cp.Ok Cp.to cf2; decide)
 ·
  unfold cf2
  simp only [List.pairwise_cons, List.mem_cons, List.not_mem_nil, or_false, forall_eq, false_imp_iff, implies_true, List.Pairwise.nil, and_true]
  unfold Apart Cp.to
  decide
theorem cf2_in : cf2.In := by
 refine ⟨⟨by decide, by decide⟩, ⟨by decide, by decide⟩, ⟨by decide, by decide⟩, fun x hx => ?_⟩
 simp only [cf2, List.mem_cons, List.not_mem_nil, or_false] at hx
 rcases hx with rfl | rfl <;> exact ⟨⟨by decide, by decide⟩, ⟨by decide, by decide⟩, ⟨by decide, by decide⟩⟩
def g2 : Gt := Gt.new cf2 [] []
def rq0 (k : Int) : Rq := ⟨k, 0, 0, 0, []⟩
theorem cfOwn {c : Cf} {a : Option Addr} {cap : Nat} {H : HL} (h : Own 3 92 (cps c.ps) a c.ps.length cap H) : c.ps.length ≤ cap ∧ RoSl 3 (cps c.ps) a c.ps.length H := by
 refine ⟨?_, Own.roSl h⟩
 rcases h.2 with ⟨_, h1, h2, _⟩ | ⟨_, _, _, _, h1, _⟩ <;> omega
theorem nou8' : u8ok [] := fun b hb => by cases hb
end Go.Proofs.YtfpghdcjdnifcaaGreat
namespace Go.Proofs.YtfpghdcjdnifcaaGreat
open Go Go.Sl Go.IntWalk
set_option maxHeartbeats 8000000
set_option maxRecDepth 20000
set_option linter.unusedVariables false
theorem new_empty (n : Nat) : (Pt.new n).empty = true := by
 unfold Pt.empty Pt.new
 rw [List.all_eq_true]
 intro f hf
 simp at hf
 rw [hf.2, eqFr_iff]
theorem tot_zero (g : Pt → Int) {ps : List Pt} (h : ∀ p ∈ ps, g p = 0) : tot g ps = 0 := by
 unfold tot
 induction ps with
 | nil => rfl
 | cons p ps ih => simp only [List.foldl_cons, h p (by simp), Int.zero_add]; exact ih (fun q hq => h q (by simp [hq]))
theorem new_all_empty (c : Cf) (fs ks : List (List Bool)) : (Pl.new c fs ks).empty = true := by
 unfold Pl.empty
 rw [parts_all]
 exact decide_eq_true (tot_zero _ fun p hp => by
  obtain ⟨n, _, rfl⟩ := List.mem_map.1 hp
  simp [emptyN, new_empty])
theorem Cf.Ok.in_ {c : Cf} (h : c.Ok) : c.In := by
 have h1 := h.fr
 have h2 := h.dp
 have h3 := h.se
 refine ⟨⟨by omega, by omega⟩, ⟨by omega, by omega⟩, ⟨by omega, by omega⟩, fun x hx => ?_⟩
 have hx := h.ps x hx
 unfold Cp.Ok Cp.to at hx
 exact ⟨⟨by omega, by omega⟩, ⟨by omega, by omega⟩, ⟨by omega, by omega⟩⟩
end Go.Proofs.YtfpghdcjdnifcaaGreat
namespace Go.Proofs.YtfpghdcjdnifcaaGreat
open Go Go.Sl Go.IntWalk
set_option maxHeartbeats 8000000
set_option maxRecDepth 20000
set_option linter.unusedVariables false
def pl2 : Pl := Pl.new cf2 [] []
def pl2s : Pl := (pl2.submit 1 (rq0 1)).1
theorem pl2_sub : (pl2.submit 1 (rq0 1)).2 = (1, 0) := by kernel_rfl
theorem pl2_out : (((pl2s.ticks 4).tn 1).t.out.map fun r => (r.id, r.tick, r.hit)) = [(1, 3, false)] := by kernel_rfl
theorem pl2_none : (((pl2s.ticks 4).taken 1).tn 0).t.out = [] := by kernel_rfl
theorem ticks_succ : ∀ (n : Nat) (p : Pl), p.ticks (n + 1) = (p.ticks n).tick
 | 0, p => rfl
 | n + 1, p => ticks_succ n p.tick
theorem pl2_good : pl2.Good := new_good cf2_ok cf2_in [] []
theorem pl2s_good : pl2s.Good := pl2_good.submit 1 nou8'
theorem pl2s_upto : pl2s.Upto 1 := Pl.Upto.submit (n := 0) (new_upto [] []) (Int.le_refl 0) 1 (rq0 1)
theorem Pl.Upto.all {p : Pl} {n : Int} (h : p.Upto n) (hn : n ≤ 1000000) : ∀ j : Nat, j < p.l.length → (p.tn j).t.ids ≤ 1000000 := fun j hj => Int.le_trans (h.tn hj) hn
theorem PTwo_spec : Ctr Tryz.prog 55 [] [] [] (CfOut cf2) := by
 refine Ctr.enter (n := 5) [.cell 0 24] [] Tryz.func55 rfl rfl rfl (lb rfl) Tryz.call55 trivial ?_
 intro cx fin fin0
 refine aG ?_
 repeat (first | refine gx ?_ | refine gN fun _ => ?_ | refine gB fun _ => ?_ | fail)
 refine aBu (ps := [_, _, _]) ?_
 repeat refine gx ?_
 refine aBu (ps := [_, _, _]) ?_
 repeat refine gx ?_
 refine aSl (ps := [_, _]) ?_
 intro bt
 refine aG ?_
 refine aBu (ps := [_, _, _, _]) ?_
 repeat refine gx ?_
 refine W.order [0, 0] rfl ?_
 refine W.ret (fin _ _ (FinOk.first 1 (aRc .nil) rfl ?_))
 exact ⟨_, _, _, rfl, rfl, Own.exact (cs := cps cf2.ps) bt rfl⟩
theorem POpenOk_spec (c : Cf) (hok : c.Ok) (hin : c.In) (a : Option Addr) (cap : Nat) (hcap : c.ps.length ≤ cap) (ro : HL) (hro : RoSl 3 (cps c.ps) a c.ps.length ro) (fs ks : List Bl) (af : Option Addr) (cf : Nat) (rf : HL) (hf : BitsAt fs af rf) (ak : Option Addr) (ck : Nat) (rk : HL) (hk : BitsAt ks ak rk) :
  Ctr Tryz.prog 37 [c.v a cap, .slice af fs.length cf, .slice ak ks.length ck] [] (ro ++ (rf ++ rk)) (fun v L' => ∃ b H, v = .tuple #[.pointer (some ⟨b, 0, none⟩), .int .i64 0] ∧ L' = [H] ∧ PlAt (Pl.new c (fs.map Bl.xs) (ks.map Bl.xs)) b H) := by
 have hl := hok.len.2
 refine (POpen_spec c hin (by omega) a cap hcap ro hro fs ks af cf rf hf ak ck rk hk).post ?_
 rintro v L' (⟨h, -⟩ | ⟨-, b, H, h1, h2, h3⟩)
 · exact absurd hok h
 · exact ⟨b, H, h1, h2, h3⟩
theorem POpenNo_spec (c : Cf) (hno : ¬ c.Ok) (hin : c.In) (hps : c.ps.length ≤ 9223372036854775807) (a : Option Addr) (cap : Nat) (ro : HL) (hcap : c.ps.length ≤ cap) (hro : RoSl 3 (cps c.ps) a c.ps.length ro) :
  Ctr Tryz.prog 37 [c.v a cap, .slice none 0 0, .slice none 0 0] [] ro (fun v L' => v = .tuple #[.pointer none, .int .i64 3] ∧ L' = []) := by
 refine ((POpen_spec c hin hps a cap hcap ro hro [] [] none 0 [] BitsAt.nil none 0 [] BitsAt.nil).ro (ro1 := ro) (fun p hp => by simpa using hp)).post ?_
 rintro v L' (⟨-, h1, h2⟩ | ⟨h, -⟩)
 · exact ⟨h1, h2⟩
 · exact absurd h hno
theorem POpen0_spec (c : Cf) (hok : c.Ok) (hin : c.In) (a : Option Addr) (cap : Nat) (ro : HL) (hcap : c.ps.length ≤ cap) (hro : RoSl 3 (cps c.ps) a c.ps.length ro) :
  Ctr Tryz.prog 37 [c.v a cap, .slice none 0 0, .slice none 0 0] [] ro (fun v L' => ∃ b H, v = .tuple #[.pointer (some ⟨b, 0, none⟩), .int .i64 0] ∧ L' = [H] ∧ PlAt (Pl.new c [] []) b H) :=
 (POpenOk_spec c hok hin a cap hcap ro hro [] [] none 0 [] BitsAt.nil none 0 [] BitsAt.nil).ro (ro1 := ro) (fun p hp => by simpa using hp)
theorem pl2_len (i : Nat) : (pl2s.ticks i).l.length = 2 := by rw [(ticks_same i pl2s).2.1]; kernel_rfl
theorem pl2_now (i : Nat) : (pl2s.ticks i).now = (i : Int) := by rw [(ticks_same i pl2s).2.2, show pl2s.now = 0 by kernel_rfl]; omega
theorem POutIn_spec (p : Pl) (b : Nat) (H : HL) (h : PlAt p b H) (j : Nat) (hj : j < p.l.length) : Ctr Tryz.prog 43 [.pointer (some ⟨b, 0, none⟩), .int .i64 (j : Int)] [H] []
  (fun v L' => ∃ (los : List Ro) (a : Option Addr) (c : Nat) (H' Ho D : HL), v = .slice a los.length c ∧ L' = [H', Ho] ∧ PlAt (p.taken j) b H' ∧ los.map Ro.r = (p.tn j).t.out ∧ RoSl 11 (los.flatMap Ro.l) a los.length Ho ∧ (∀ q ∈ D, q ∈ H') ∧ (∀ o ∈ los, ∃ r, RoSl 1 (u8s o.r.data) o.a o.n r ∧ o.r.data.length = o.n ∧ ∀ q ∈ r, q ∈ D)) :=
 (POut_spec p b H h (j : Int)).post fun v L' h => h.elim (fun h => absurd (show p.in_ (j : Int) from ⟨by omega, by omega⟩) h.1) (fun h => h.2)
theorem POutNo_spec (p : Pl) (b : Nat) (H : HL) (h : PlAt p b H) (i : Int) (hi : ¬ p.in_ i) : Ctr Tryz.prog 43 [.pointer (some ⟨b, 0, none⟩), .int .i64 i] [H] [] (fun v L' => v = .slice none 0 0 ∧ L' = [H]) :=
 (POut_spec p b H h i).post fun v L' h => h.elim (fun h => h.2) (fun h => absurd h.1 hi)
theorem PLives_spec : Ctr Tryz.prog 46 [] [] [] (fun v L' => v = .bool true ∧ L' = []) := by
 have hO := fun a cap ro hc hr => POpen0_spec cf2 cf2_ok cf2_in a cap ro hc hr
 rw [show Pl.new cf2 [] [] = pl2 from rfl] at hO
 have hS := fun b H h => PSubmit_spec pl2 pl2_good.inv b H h 1 (fun _ => by decide) (rq0 1) nou8' (by decide) ⟨by decide, by decide⟩ ⟨by decide, by decide⟩ none 0 [] ⟨rfl, .inl ⟨rfl, rfl⟩⟩
 rw [pl2_sub] at hS
 rw [show (pl2.submit 1 (rq0 1)).1 = pl2s from rfl] at hS
 have hT := fun i (hi : i ≤ 4) b H h => PTick_spec (pl2s.ticks i) (pl2s_good.ticks i) ((pl2s_upto.ticks pl2s_good i).all (by decide)) (by rw [pl2_now]; omega) b H h
 simp only [← ticks_succ] at hT
 have hO1 := fun b H h => POutIn_spec (pl2s.ticks 4) b H h 1 (by rw [pl2_len]; decide)
 have hO0 := fun b H h => POutIn_spec ((pl2s.ticks 4).taken 1) b H h 0 (by show 0 < ((pl2s.ticks 4).setT _ _).l.length; rw [setT_len, pl2_len]; decide)
 have ho1 := pl2_out
 have ho0 := pl2_none
 rw [show ((0 : Nat) : Int) = 0 from rfl, ho0] at hO0
 rw [show ((1 : Nat) : Int) = 1 from rfl] at hO1
 generalize ((pl2s.ticks 4).tn 1).t.out = out1 at *
 generalize pl2 = p0 at *
 generalize hs0 : (fun i => pl2s.ticks i) = ps at *
 obtain ⟨r, rfl, hr⟩ := List.map_eq_singleton_iff.1 ho1
 simp only [Prod.mk.injEq] at hr
 obtain ⟨hr1, hr2, hr3⟩ := hr
 clear ho1 ho0
 simp only [Rq.v, rq0] at *
 refine Ctr.enter (n := 68) [.tmp 0] [] Tryz.func46 rfl rfl rfl (lb rfl) Tryz.call46 trivial ?_
 intro cx fin fin0
 refine aG ?_
 repeat refine gx ?_
 refine aC (o := PTwo_spec) (h := ?_)
 rintro _ _ ⟨a, cap, H0, rfl, rfl, ho⟩
 refine aG ?_
 obtain ⟨ho1, ho2⟩ := cfOwn ho
 refine aC (o := hO a cap H0 ho1 ho2) (h := ?_) (hro := RoIn.own 0 rfl)
 rintro _ _ ⟨b, H, rfl, rfl, hp⟩
 refine aG ?_
 repeat refine gx ?_
 refine aBu (ps := [_]) ?_
 refine aC (o := hS b H hp) (h := ?_)
 rintro _ _ ⟨H, rfl, rfl, hp⟩
 refine aG ?_
 repeat refine gx ?_
 refine W.order [0] rfl ?_
 refine aLp (fun k ρ1 L1 => ∃ (i : Nat) (H : HL), i ≤ 4 ∧ k = 4 - i ∧ PlAt (pl2s.ticks i) b H ∧ ρ1 = [(5, .int .i64 (i : Int)), (1, .pointer (some ⟨b, 0, none⟩)), (3, .int .i64 1), (4, .int .i64 0)] ∧ L1 = [H]) (o := ⟨0, H, by decide, rfl, hp, rfl, rfl⟩) (h := ?_)
 clear hp H
 rintro k ρ1 L1 ⟨i, H, hi, rfl, hp, rfl, rfl⟩
 refine aG ?_
 rcases Classical.em ((i : Int) < 4) with hz | hz
 ·
  repeat refine gh hz ?_
  refine aC (o := hT i hi b H hp) (h := ?_)
  rintro _ _ ⟨H, rfl, hp⟩
  refine aG ?_
  repeat refine gh hz ?_
  refine aR (o := ⟨4 - (i + 1), by omega, i + 1, H, by omega, rfl, hp, rfl, rfl⟩)
 obtain rfl : i = 4 := by omega
 repeat refine gh hz ?_
 refine aC (o := hO1 b H hp) (h := ?_)
 rintro _ _ ⟨los, a1, c1, H, Ho, D1, rfl, rfl, hp, hl1, hl2, -, -⟩
 refine aG ?_
 obtain ⟨o, rfl, hor⟩ := List.map_eq_singleton_iff.1 hl1
 obtain ⟨bx, ox, lx, ex, frx, rfl, rfl, -, hld⟩ := RoSl.at (f := Ro.l) (m := 11) (fun _ => rfl) hl2 (i := 0) (Nat.zero_lt_one)
 have l0 : lx[ox + 0 * 11 + 0]? = some (.int .i64 1) := by rw [hld 0 (by decide), ← hr1, ← hor]; rfl
 have l2 : lx[ox + 0 * 11 + 2]? = some (.bool false) := by rw [hld 2 (by decide), ← hr3, ← hor]; rfl
 have l3 : lx[ox + 0 * 11 + 3]? = some (.int .i64 3) := by rw [hld 3 (by decide), ← hr2, ← hor]; rfl
 have h01 : 0 < 1 := by decide
 repeat refine gx ?_
 refine aV (OpVal.ixSl tab_ok rfl rfl rfl rfl rfl h01) ?_
 repeat refine gx ?_
 refine aV (OpVal.load tab_ok rfl (at_own 1 rfl) l0) ?_
 repeat refine gx ?_
 refine aV (OpVal.ixSl tab_ok rfl rfl rfl rfl rfl h01) ?_
 repeat refine gx ?_
 refine aV (OpVal.load tab_ok rfl (at_own 1 rfl) l3) ?_
 repeat refine gx ?_
 refine aV (OpVal.ixSl tab_ok rfl rfl rfl rfl rfl h01) ?_
 repeat refine gx ?_
 refine aV (OpVal.load tab_ok rfl (at_own 1 rfl) l2) ?_
 repeat refine gx ?_
 refine aC (o := hO0 b H hp) (h := ?_)
 rintro _ _ ⟨los2, a2, c2, H2, Ho2, D2, rfl, rfl, hp2, hl3, -, -, -⟩
 refine aG ?_
 obtain rfl := List.map_eq_nil_iff.1 hl3
 repeat refine gx ?_
 refine W.order [] rfl ?_
 refine W.ret (fin _ _ (FinOk.first 0 (.tmp rfl .nil) rfl ?_))
 exact ⟨rfl, rfl⟩
end Go.Proofs.YtfpghdcjdnifcaaGreat
namespace Go.Proofs.YtfpghdcjdnifcaaGreat
open Go Go.Sl Go.IntWalk
set_option maxHeartbeats 8000000
set_option maxRecDepth 20000
set_option linter.unusedVariables false
theorem new_tn (c : Cf) (fs ks : List (List Bool)) {j : Nat} (hj : j < c.ps.length) : ((Pl.new c fs ks).tn j).t = Tn.new (c.ps[j]).q.toNat (c.ps[j]).p := by
 have h := new_at c fs ks j hj
 have hl : j < (Pl.new c fs ks).l.length := by rw [new_len]; exact hj
 rw [List.getElem?_eq_getElem hl] at h
 rw [Pl.tn_get hl, Option.some.inj h]
 rfl
theorem new_taken (c : Cf) (fs ks : List (List Bool)) {j : Nat} (hj : j < c.ps.length) : (Pl.new c fs ks).taken j = Pl.new c fs ks := by
 have hl : j < (Pl.new c fs ks).l.length := by rw [new_len]; exact hj
 have h := new_tn c fs ks hj
 have e : { (Pl.new c fs ks).tn j with t := ((Pl.new c fs ks).tn j).t.taken } = (Pl.new c fs ks).tn j := by
  rw [show ((Pl.new c fs ks).tn j).t.taken = ((Pl.new c fs ks).tn j).t by rw [h]; rfl]
 unfold Pl.taken
 rw [setT_setE, e, setE_self hl]
theorem NOut_spec (c : Cf) (b : Nat) (H : HL) (h : PlAt (Pl.new c [] []) b H) (i : Int) : Ctr Tryz.prog 43 [.pointer (some ⟨b, 0, none⟩), .int .i64 i] [H] []
  (fun v L' => ∃ a cc H' Ho, v = .slice a 0 cc ∧ L' = [H', Ho] ∧ PlAt (Pl.new c [] []) b H') := by
 rcases Classical.em ((Pl.new c [] []).in_ i) with hin | hin
 ·
  obtain ⟨j, rfl, hj⟩ := hin.in_nat
  have hj2 : j < c.ps.length := by rw [new_len] at hj; exact hj
  refine (POutIn_spec _ b H h j hj).post ?_
  rintro v L' ⟨los, a, cc, H', Ho, D, rfl, rfl, h1, h2, -⟩
  rw [new_tn c [] [] hj2] at h2
  obtain rfl := List.map_eq_nil_iff.1 h2
  rw [new_taken c [] [] hj2] at h1
  exact ⟨a, cc, H', Ho, rfl, rfl, h1⟩
 ·
  refine (((POutNo_spec _ b H h i hin).frame [[]]).regroup (pre' := [H]) (by simp)).post ?_
  rintro v L' ⟨L1, rfl, rfl, rfl⟩
  exact ⟨none, 0, H, [], rfl, rfl, h⟩
theorem NWaits_spec (c : Cf) (b : Nat) (H : HL) (h : PlAt (Pl.new c [] []) b H) (i : Int) : Ctr Tryz.prog 44 [.pointer (some ⟨b, 0, none⟩), .int .i64 i] [] H (fun v L' => v = .int .i64 0 ∧ L' = []) := by
 refine (PWaits_spec _ b H h i).post ?_
 rintro v L' ⟨rfl, rfl⟩
 refine ⟨?_, rfl⟩
 split
 ·
  rename_i hin
  obtain ⟨j, rfl, hj⟩ := Pl.in_.in_nat hin
  rw [new_tn c [] [] (by rw [new_len] at hj; exact hj)]
  rfl
 · rfl
theorem NCount_spec (c : Cf) (b : Nat) (H : HL) (h : PlAt (Pl.new c [] []) b H) (i : Int) : Ctr Tryz.prog 45 [.pointer (some ⟨b, 0, none⟩), .int .i64 i] [] H (fun v L' => v = C6.none.v ∧ L' = []) := by
 refine (PCount_spec _ b H h i).post ?_
 rintro v L' ⟨rfl, rfl⟩
 refine ⟨?_, rfl⟩
 split
 ·
  rename_i hin
  obtain ⟨j, rfl, hj⟩ := Pl.in_.in_nat hin
  rw [new_tn c [] [] (by rw [new_len] at hj; exact hj)]
  rfl
 · rfl
theorem PoolNews_spec (c : Cf) (hin : c.In) (hps : c.ps.length ≤ 9223372036854775807) (a : Option Addr) (cap : Nat) (hcap : c.ps.length ≤ cap) (ro : HL) (hro : RoSl 3 (cps c.ps) a c.ps.length ro) :
  Ctr Tryz.prog 6 [c.v a cap] [] ro (fun v L' => v = .bool true ∧ L' = []) := by
 have hF := RefFew_spec c hps a cap hcap ro hro
 have hG := RefGood_spec c hin hps a cap hcap ro hro
 have hL := PLives_spec
 have f1 := few_in hin
 have f2 := (gcf_ok c).in_
 have f3 := gcf_len c
 have f4 : c.few.ps.length ≤ 5 := by show (c.ps.take 5).length ≤ 5; rw [List.length_take]; omega
 unfold CfOut at hF hG
 generalize gcf c = cg at *
 generalize c.few = cw at *
 refine Ctr.enter (n := 105) [.tmp 2] [(0, _)] Tryz.func6 rfl rfl rfl (lb rfl) Tryz.call6 ⟨rfl, trivial⟩ ?_
 intro cx fin fin0
 refine aG ?_
 repeat (first | refine gx ?_ | refine gN fun _ => ?_ | refine gB fun _ => ?_ | fail)
 rename_i b1
 refine W.drawH tab_ok 5 [.b false, .b true, .b false, .b true, .b true] [] follows (by decide +kernel) (by decide +kernel) rfl (by decide) rfl ?_
 intro _
 refine dG ?_
 refine gdx ?_
 refine dC (o := hF) (h := ?_) (hro := RoIn.all (fun q hq => List.mem_append_right _ hq))
 rintro _ _ ⟨a1, c1, H1, rfl, rfl, ho1⟩
 refine dG ?_
 refine gdx ?_
 refine dC (o := hG) (h := ?_) (hro := RoIn.all (fun q hq => List.mem_append_right _ hq))
 rintro _ _ ⟨a2, c2, H2, rfl, rfl, ho2⟩
 refine dG ?_
 refine gdx ?_
 refine dSl (ps := [_, _]) ?_
 intro bt
 refine dG ?_
 refine WD.nil (W.dropNil (aG ?_))
 repeat refine gx ?_
 have hat : ∀ i < 2, ∃ (c' : Cf) (a' : Option Addr) (cap' : Nat) (H' : HL), ldv? tab 24 [.int .i64 cw.fr, .int .i64 cw.dp, .int .i64 cw.se, .slice a1 cw.ps.length c1, .int .i64 cg.fr, .int .i64 cg.dp, .int .i64 cg.se, .slice a2 cg.ps.length c2] (0 + i * 4) = some (c'.v a' cap') ∧
   ([.int .i64 cw.fr, .int .i64 cw.dp, .int .i64 cw.se, .slice a1 cw.ps.length c1, .int .i64 cg.fr, .int .i64 cg.dp, .int .i64 cg.se, .slice a2 cg.ps.length c2] : List Value)[0 + i * 4 + 3]? = some (.slice a' c'.ps.length cap') ∧ c'.In ∧ c'.ps.length ≤ 5 ∧ c'.ps.length ≤ cap' ∧ RoSl 3 (cps c'.ps) a' c'.ps.length H' ∧ (∀ q ∈ H', q ∈ H1 ∨ q ∈ H2) := by
  intro i hi
  match i, hi with
  | 0, _ => exact ⟨cw, a1, c1, H1, rfl, rfl, f1, f4, (cfOwn ho1).1, (cfOwn ho1).2, fun q hq => .inl hq⟩
  | 1, _ => exact ⟨cg, a2, c2, H2, rfl, rfl, f2, by omega, (cfOwn ho2).1, (cfOwn ho2).2, fun q hq => .inr hq⟩
 refine aLp (fun k ρ1 L1 => ∃ i : Nat, i ≤ 2 ∧ k = 2 - i ∧ ρ1 = [(4, .int .i64 (i : Int)), (3, .slice (some ⟨bt, 0, none⟩) 2 2)] ∧ L1 = [[(bt, .cells #[.int .i64 cw.fr, .int .i64 cw.dp, .int .i64 cw.se, .slice a1 cw.ps.length c1, .int .i64 cg.fr, .int .i64 cg.dp, .int .i64 cg.se, .slice a2 cg.ps.length c2] 24 (0, 0))], H2, H1]) (o := ⟨0, by decide, rfl, rfl, rfl⟩) (h := ?_)
 rintro k ρ1 L1 ⟨i, hi, rfl, rfl, rfl⟩
 refine aG ?_
 rcases Classical.em ((i : Int) < 2) with hz | hz
 case' inr =>
  repeat refine gh hz ?_
  refine W.order [] rfl ?_
  refine aC (o := hL) (h := ?_) (hro := RoIn.nil)
  rintro _ _ ⟨rfl, rfl⟩
  refine aG ?_
  repeat refine gx ?_
  refine W.ret (fin _ _ (FinOk.first 0 (.tmp rfl .nil) rfl ?_))
  exact ⟨rfl, rfl⟩
 have hlt : i < 2 := by omega
 obtain ⟨c', a', cap', H', hld, hl3, hin', h5', hcap', hro', hsub⟩ := hat i hlt
 have hMay := RefMay_spec c' hin' (by omega) a' cap' H' hro'
 repeat refine gh hz ?_
 refine aV (OpVal.ixSl tab_ok rfl rfl rfl rfl rfl hlt) ?_
 refine aV (OpVal.load tab_ok rfl (at_own 0 rfl) hld) ?_
 rcases Classical.em c'.Ok with hok | hno
 case' inr =>
  refine aC (o := POpenNo_spec c' hno hin' (by omega) a' cap' H' hcap' hro') (h := ?_) (hro := (fun q hq => (hsub q hq).elim (fun h => .inl (by simp [h])) (fun h => .inl (by simp [h]))))
  rintro _ _ ⟨rfl, rfl⟩
  refine aG ?_
  repeat refine gx ?_
  refine aV (OpVal.ixSl tab_ok rfl rfl rfl rfl rfl hlt) ?_
  refine aV (OpVal.load tab_ok rfl (at_own 0 rfl) hld) ?_
  refine aC (o := hMay) (h := ?_) (hro := (fun q hq => (hsub q hq).elim (fun h => .inl (by simp [h])) (fun h => .inl (by simp [h]))))
  rintro _ _ ⟨mb, rfl, rfl, hmb⟩
  refine aG ?_
  obtain rfl : mb = false := by cases mb with | false => rfl | true => exact absurd (hmb.1 rfl) hno
  repeat refine gx ?_
  refine W.order [0, 0, 0] rfl ?_
  refine aR (o := ⟨2 - (i + 1), by omega, i + 1, by omega, rfl, rfl, rfl⟩)
 have hgi := new_pinv hok hin' [] []
 have hLn := fun b H h => PLenP_spec (Pl.new c' [] []) b H h
 have hOu := fun k b H h => NOut_spec c' b H h k
 have hWa := fun k b H h => NWaits_spec c' b H h k
 have hCo := fun k b H h => NCount_spec c' b H h k
 have hRe := fun b H h => PReady_spec (Pl.new c' [] []) b H h
 have hEm := fun b H h => PEmptyP_spec (Pl.new c' [] []) hgi b H h
 have hNo := fun b H h => PNow_spec (Pl.new c' [] []) b H h
 have hEp := fun b H h => PEpoch_spec (Pl.new c' [] []) b H h
 rw [show (Pl.new c' [] []).empty = true from new_all_empty c' [] []] at hEm
 rw [show (Pl.new c' [] []).down = 0 from rfl] at hRe
 rw [show (Pl.new c' [] []).now = 0 from rfl] at hNo
 rw [show (Pl.new c' [] []).epoch = 1 from rfl] at hEp
 rw [new_len] at hLn
 refine aC (o := POpen0_spec c' hok hin' a' cap' H' hcap' hro') (h := ?_) (hro := (fun q hq => (hsub q hq).elim (fun h => .inl (by simp [h])) (fun h => .inl (by simp [h]))))
 rintro _ _ ⟨bg, Hg, rfl, rfl, hga⟩
 refine aG ?_
 generalize Pl.new c' [] [] = g at *
 repeat refine gx ?_
 refine aV (OpVal.ixSl tab_ok rfl rfl rfl rfl rfl hlt) ?_
 refine aV (OpVal.load tab_ok rfl (at_own 1 rfl) hld) ?_
 refine aC (o := hMay) (h := ?_) (hro := (fun q hq => (hsub q hq).elim (fun h => .inl (by simp [h])) (fun h => .inl (by simp [h]))))
 rintro _ _ ⟨mb, rfl, rfl, hmb⟩
 refine aG ?_
 obtain rfl : mb = true := hmb.2 hok
 repeat refine gx ?_
 refine W.drawH tab_ok 29 [.b false, .b false, .b false, .b false, .b false, .b false, .b false, .b false, .b false, .b false, .b false, .b false, .b false, .b false, .b false, .b false, .b false, .b false, .b false, .b false, .b false, .b false, .b false, .b false, .b false, .b false, .b false, .b false, .b false] [] follows (by decide +kernel) (by decide +kernel) rfl (by decide) rfl ?_
 intro _
 refine dG ?_
 refine gdx ?_
 refine dQ (o := (hLn bg Hg hga)) (h := ?_) (hro := (fun q hq => by simp [hq]))
 refine gdx ?_
 refine dV (OpVal.ixSl tab_ok rfl rfl rfl rfl rfl hlt) ?_
 refine gdx ?_
 refine dV (OpVal.load tab_ok rfl (by repeat (first | exact oh | exact rh | exact rhF | apply ot | apply raF | apply rt)) hl3) ?_
 refine gdx ?_
 refine dQg (o := hNo bg Hg hga) (h := ?_) (hro := fun q hq => by simp [hq])
 refine gdx ?_
 refine dQg (o := hEp bg Hg hga) (h := ?_) (hro := fun q hq => by simp [hq])
 refine gdx ?_
 refine dQg (o := hRe bg Hg hga) (h := ?_) (hro := fun q hq => by simp [hq])
 refine gdx ?_
 refine dQg (o := hEm bg Hg hga) (h := ?_) (hro := fun q hq => by simp [hq])
 refine gdx ?_
 refine WD.nil (W.dropNil (aG ?_))
 repeat refine gx ?_
 refine aLp (fun m ρ1 L1 => ∃ (k : Int) (Hg : HL), -1 ≤ k ∧ k ≤ (c'.ps.length : Int) + 1 ∧ m = ((c'.ps.length : Int) + 1 - k).toNat ∧ PlAt g bg Hg ∧ ρ1 = [(8, .int .i64 k), (5, .pointer (some ⟨bg, 0, none⟩)), (4, .int .i64 (i : Int)), (3, .slice (some ⟨bt, 0, none⟩) 2 2)] ∧ L1 = [Hg, [(bt, .cells #[.int .i64 cw.fr, .int .i64 cw.dp, .int .i64 cw.se, .slice a1 cw.ps.length c1, .int .i64 cg.fr, .int .i64 cg.dp, .int .i64 cg.se, .slice a2 cg.ps.length c2] 24 (0, 0))], H2, H1]) (o := ⟨-1, Hg, by decide, by omega, rfl, hga, rfl, rfl⟩) (h := ?_)
 clear hga Hg
 rintro m ρ1 L1 ⟨k, Hg, hk1, hk2, rfl, hga, rfl, rfl⟩
 refine aG ?_
 repeat refine gx ?_
 refine aC (o := hLn bg Hg hga) (h := ?_) (hro := RoIn.own 0 rfl)
 rintro _ _ ⟨rfl, rfl⟩
 refine aG ?_
 rcases Classical.em (k ≤ (c'.ps.length : Int)) with hkz | hkz
 case' inr =>
  repeat refine gh hkz ?_
  refine W.order [1, 1, 1] rfl ?_
  refine aR (o := ⟨2 - (i + 1), by omega, i + 1, by omega, rfl, rfl, rfl⟩)
 repeat refine gh hkz ?_
 refine aC (o := hOu k bg Hg hga) (h := ?_)
 rintro _ _ ⟨a3, c3, Hg3, Ho3, rfl, rfl, hga3⟩
 refine aG ?_
 repeat refine gx ?_
 refine aC (o := hWa k bg Hg3 hga3) (h := ?_) (hro := RoIn.own 0 rfl)
 rintro _ _ ⟨rfl, rfl⟩
 refine aG ?_
 repeat refine gx ?_
 refine aC (o := hCo k bg Hg3 hga3) (h := ?_) (hro := RoIn.own 0 rfl)
 rintro _ _ ⟨rfl, rfl⟩
 refine aG ?_
 repeat refine gx ?_
 refine aBu (ps := []) ?_
 repeat refine gx ?_
 refine aV (neC C6.none rfl rfl) ?_
 repeat refine gx ?_
 refine W.order [0, 1, 1, 1] rfl ?_
 refine aR (o := ⟨((c'.ps.length : Int) + 1 - (k + 1)).toNat, by omega, k + 1, Hg3, by omega, by omega, rfl, hga3, rfl, rfl⟩)
end Go.Proofs.YtfpghdcjdnifcaaGreat
namespace Go.Proofs.YtfpghdcjdnifcaaGreat
open Go Go.Sl Go.RowKit Go.ChangeShapes Go.WideShapes Go.ChangeAt
set_option maxHeartbeats 4000000
set_option maxRecDepth 20000
def Cp.of (q : Int × Int × Int × Unit) : Cp := ⟨q.1, q.2.1, q.2.2.1⟩
section
variable {H : Type} {enc : TypeId × Value → H} {w : World} {spare : Nat → Bool} {held : Bool}
theorem opens_int3 : ∃ f Ok, Opens enc Tryz.prog w spare held 92 3 f Ok ∧ ∀ q, f q = (Cp.of q).l ∧ (Ok q → (Cp.of q).In) := by
 have hi : Opens enc Tryz.prog w spare held 3 1 (fun i => [Value.int .i64 i]) i64s := Opens.int Tryz.underlying3 (by kernel_rfl) (fun _ h => wf_i64 h)
 refine ⟨_, _, Opens.st (OpenF.cons hi (OpenF.cons hi (OpenF.cons hi OpenF.nil))) Tryz.underlying92 (by kernel_rfl) (by kernel_rfl) ?_, fun q => ⟨rfl, ?_⟩⟩
 ·
  intro q hq
  have h1 : Tryz.prog.cellsOf 3 = 1 := by kernel_rfl
  simp only [List.mem_cons, List.not_mem_nil, or_false] at hq
  rcases hq with rfl | rfl | rfl <;> exact h1
 ·
  rintro ⟨h1, h2, h3, _⟩
  exact ⟨h1, h2, h3⟩
theorem open_cfg {r : Reach} {b0 : Nat} {v : Value} {d : DataW H} {ps : List MemPlace} (hok : Value.okWide Tryz.prog w r b0 24 v) (h : DataW.Trod enc Tryz.prog w 0 spare held 24 v d ps) :
  ∃ (c : Cf) (a : Option Addr) (cap : Nat) (ro : HL), v = c.v a cap ∧ c.In ∧ c.ps.length ≤ 9223372036854775807 ∧ c.ps.length ≤ cap ∧ RoSl 3 (cps c.ps) a c.ps.length ro ∧ ∀ p ∈ ro, w.heap[p.1]? = some p.2 := by
 have hi : Opens enc Tryz.prog w spare held 3 1 (fun i => [Value.int .i64 i]) i64s := Opens.int Tryz.underlying3 (by kernel_rfl) (fun _ h => wf_i64 h)
 obtain ⟨f, Ok, hop, hq⟩ := opens_int3 (enc := enc) (w := w) (spare := spare) (held := held)
 obtain ⟨x, rfl, hx1, hx2, hx3, hs, -⟩ := Opens.argSt (Opens.st (OpenF.cons hi (OpenF.cons hi (OpenF.cons hi (OpenF.cons (Opens.sl hop (by decide) Tryz.underlying22 (by kernel_rfl)) OpenF.nil)))) Tryz.underlying24 (by kernel_rfl) (by kernel_rfl) (by
  intro q hq
  have h1 : Tryz.prog.cellsOf 3 = 1 := by kernel_rfl
  have h2 : Tryz.prog.cellsOf 22 = 1 := by kernel_rfl
  simp only [List.mem_cons, List.not_mem_nil, or_false] at hq
  rcases hq with rfl | rfl | rfl | rfl <;> first | exact h1 | exact h2)) Tryz.underlying24 hok h
 obtain ⟨y1, y2, y3, s, u⟩ := x
 have hc : s.xs.length ≤ s.cap := hs.cap
 have hm : s.cap ≤ maxLen := hs.max
 have hml : maxLen = 9223372036854775807 := by decide
 refine ⟨⟨y1, y2, y3, s.xs.map Cp.of⟩, s.a, s.cap, s.ro, ?_, ⟨hx1, hx2, hx3, fun p hp => ?_⟩, by rw [List.length_map]; omega, by rw [List.length_map]; exact hc, ?_, hs.mem⟩
 ·
  unfold Cf.v
  rw [List.length_map]
  rfl
 ·
  obtain ⟨z, hz, rfl⟩ := List.mem_map.1 hp
  exact (hq z).2 (hs.all z hz)
 ·
  have e : cps (s.xs.map Cp.of) = s.xs.flatMap f := by
   unfold cps
   rw [List.flatMap_map]
   congr 1
   funext x
   exact ((hq x).1).symm
  show RoSl 3 (cps (s.xs.map Cp.of)) s.a (s.xs.map Cp.of).length s.ro
  rw [e, List.length_map]
  exact hs.ro
end
end Go.Proofs.YtfpghdcjdnifcaaGreat
