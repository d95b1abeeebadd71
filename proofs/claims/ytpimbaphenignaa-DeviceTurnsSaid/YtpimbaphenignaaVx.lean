/-
  A cell of which one byte is another one is not read, until it is written anew and lasts.
-/
import Derived.Test.YtpimbaphenignaaVw
namespace Go.Proofs.Ytpimbaphenignaa
open Go Go.Sl Go.IntWalk
set_option maxHeartbeats 8000000
set_option maxRecDepth 20000
set_option linter.unusedVariables false
theorem chk_inj {a b : Nat} (ha : a < 2 ^ 32) (hb : b < 2 ^ 32) (h : chk a 4 = chk b 4) : a = b := by
  simp only [chk, List.nil_append, List.cons_append, List.cons.injEq, Nat.pow_zero, Nat.div_one, and_true] at h
  have h256 : (256 : Nat) ^ 1 = 256 ∧ (256 : Nat) ^ 2 = 65536 ∧ (256 : Nat) ^ 3 = 16777216 := by decide
  obtain ⟨e1, e2, e3⟩ := h256
  rw [e1, e2, e3] at h
  obtain ⟨h1, h2, h3, h4⟩ := h
  omega
theorem xor_self {x y : Nat} (h : x ^^^ y = x) : y = 0 := by
  have h2 : y ^^^ x = 0 ^^^ x := by rw [Nat.xor_comm, h, Nat.zero_xor]
  exact xor_left_inj h2
theorem flip_bad {own : List Int} (hl : own.length = 16) (hu : u8ok own) {p : Nat} (hp : p < 20) {by_ : Nat} (hb0 : by_ ≠ 0) (hb : by_ < 256) : sealB ((flipB (sealB own) (p : Int) by_).take 16) ≠ flipB (sealB own) (p : Int) by_ := by
  have hcl : (sealB own).length = 20 := by rw [sealB_len, hl]
  have hpc : p < (sealB own).length := by omega
  have hcu := sealB_ok hu
  have hcb := hcu _ (List.getElem_mem hpc)
  have hf : flipB (sealB own) (p : Int) by_ = (sealB own).set p ((((sealB own)[p]).toNat ^^^ by_ : Nat) : Int) := by
    unfold flipB
    rw [Int.toNat_natCast, List.getD_eq_getElem?_getD, List.getElem?_eq_getElem hpc, Option.getD_some]
  rw [hf]
  obtain ⟨x, hx⟩ : ∃ x : Nat, (sealB own)[p] = (x : Int) := ⟨(sealB own)[p].toNat, by omega⟩
  have hx256 : x < 256 := by rw [hx] at hcb; omega
  rw [hx, Int.toNat_natCast]
  have hne : x ≠ x ^^^ by_ := fun h => hb0 (xor_self h.symm)
  have hxb : x ^^^ by_ < 256 := Nat.xor_lt_two_pow (n := 8) hx256 hb
  generalize hv : x ^^^ by_ = v at *
  intro h
  by_cases h16 : p < 16
  · have hpo : p < own.length := by omega
    have e1 : (sealB own).set p (v : Int) = own.set p (v : Int) ++ chk (crcI own) 4 := by unfold sealB; exact List.set_append_left p _ hpo
    have e2 : (own.set p (v : Int) ++ chk (crcI own) 4).take 16 = own.set p (v : Int) := List.take_left' (by rw [List.length_set, hl])
    have hox : own[p] = (x : Int) := by
      have e := List.getElem?_append_left (l₂ := chk (crcI own) 4) hpo
      have e2 : (sealB own)[p]? = some (x : Int) := by rw [List.getElem?_eq_getElem hpc, hx]
      unfold sealB at e2
      rw [e, List.getElem?_eq_getElem hpo] at e2
      exact Option.some.inj e2
    rw [e1, e2] at h
    unfold sealB at h
    have hu2 : u8ok (own.set p (v : Int)) := fun y hy => by
      rcases List.mem_or_eq_of_mem_set hy with h1 | rfl
      · exact hu y h1
      · omega
    have h2 := chk_inj (crcI_lt hu2) (crcI_lt hu) (List.append_cancel_left h)
    unfold crcI at h2
    have e3 : own.set p (v : Int) = own.take p ++ (v : Int) :: own.drop (p + 1) := by rw [List.set_eq_take_append_cons_drop, if_pos hpo]
    have e4 : own = own.take p ++ (x : Int) :: own.drop (p + 1) := by rw [← hox, ← List.drop_eq_getElem_cons hpo, List.take_append_drop]
    rw [e3] at h2
    conv at h2 => rhs; rw [e4]
    simp only [List.map_append, List.map_cons, Int.toNat_natCast] at h2
    exact crcNat_other (nats_ok fun y hy => hu y (List.mem_of_mem_take hy)) (nats_ok fun y hy => hu y (List.mem_of_mem_drop hy)) hxb (by omega) (fun h => hne h.symm) h2
  · have e1 : ((sealB own).set p (v : Int)).take 16 = own := by
      rw [List.take_set, ← hl, sealB_take]
      exact List.set_eq_of_length_le (by omega)
    rw [e1] at h
    have h2 := congrArg (·[p]?) h
    simp only [List.getElem?_set_self hpc, List.getElem?_eq_getElem hpc, hx, Option.some.injEq] at h2
    exact hne (by exact_mod_cast h2)
theorem turns_bar {c : List Int} (hc : c ≠ []) {k : Nat} (hk : k < 4) : ((Dv.new 4).setLater k c).barrier 0 4 = (Dv.new 4).setLast k c := by
  cases c with
  | nil => exact absurd rfl hc
  | cons x l => rcases (show k = 0 ∨ k = 1 ∨ k = 2 ∨ k = 3 by omega) with rfl | rfl | rfl | rfl <;> kernel_rfl
theorem turns_bar2 {c : List Int} (hc : c ≠ []) (f : List Int) {k : Nat} (hk : k < 4) : (((Dv.new 4).setLast k f).setLater k c).barrier k ((k : Int) + 1) = (Dv.new 4).setLast k c := by
  cases c with
  | nil => exact absurd rfl hc
  | cons x l => rcases (show k = 0 ∨ k = 1 ∨ k = 2 ∨ k = 3 by omega) with rfl | rfl | rfl | rfl <;> kernel_rfl
theorem turns_read (f : List Int) {k : Nat} (hk : k < 4) : ((Dv.new 4).setLast k f).read k = cOpen f := by
  rcases (show k = 0 ∨ k = 1 ∨ k = 2 ∨ k = 3 by omega) with rfl | rfl | rfl | rfl <;> kernel_rfl
theorem turns_lasting (f : List Int) (c : List Int) {k : Nat} (hk : k < 4) : (((Dv.new 4).setLast k f).setLater k c).lasting k = cOpen f := by
  rcases (show k = 0 ∨ k = 1 ∨ k = 2 ∨ k = 3 by omega) with rfl | rfl | rfl | rfl <;> kernel_rfl
theorem turns_lasting2 (f : List Int) {k : Nat} (hk : k < 4) : ((Dv.new 4).setLast k f).lasting k = cOpen f := by
  rcases (show k = 0 ∨ k = 1 ∨ k = 2 ∨ k = 3 by omega) with rfl | rfl | rfl | rfl <;> kernel_rfl
theorem turns_turn (c : List Int) {k p : Nat} (hk : k < 4) (hp : p < 20) (by_ : Nat) : ((Dv.new 4).setLast k c).turn k p by_ = ((Dv.new 4).setLast k (flipB c p by_), 0) := by
  have h1 : ((Dv.new 4).setLast k c).last k = c := by
    rcases (show k = 0 ∨ k = 1 ∨ k = 2 ∨ k = 3 by omega) with rfl | rfl | rfl | rfl <;> kernel_rfl
  have h2 : ∀ f, ((Dv.new 4).setLast k c).setLast k f = (Dv.new 4).setLast k f := fun f => by
    rcases (show k = 0 ∨ k = 1 ∨ k = 2 ∨ k = 3 by omega) with rfl | rfl | rfl | rfl <;> kernel_rfl
  unfold Dv.turn
  rw [if_pos ⟨setLast_in.2 ⟨by omega, by show (k : Int) < ((4 : Nat) : Int); omega⟩, by omega, by omega⟩, h1, h2]
theorem new4_in {k : Nat} (hk : k < 4) : (Dv.new 4).in_ (k : Int) := ⟨by omega, by show (k : Int) < ((4 : Nat) : Int); omega⟩
theorem DeviceTurns_spec (at_ place : Int) (ha : i64s at_) (hpl : i64s place) (by0 : Nat) (hby0 : by0 < 256) (bs : List Int) (hu : u8ok bs) (ab : Option Addr) (cb : Nat) (rb : HL) (hrb : RoSl 1 (u8s bs) ab bs.length rb) :
    Ctr Try.prog 6 [.int .i64 at_, .int .i64 place, .int .u8 (by0 : Int), .slice ab bs.length cb] [] rb (fun v L' => v = .bool true ∧ L' = []) := by
  have hN := DNew_spec 4
  have hok := Dv.new_ok (n := 4) (by decide) (by decide)
  have hFi := Fill_spec bs ab cb rb hrb 16 (by decide) (by decide)
  have hou := fill_ok hu 16
  have hol := fill_len bs 16
  rw [show (16 : Int).toNat = 16 from rfl] at hFi
  generalize fill bs 16 = own at *
  have hA1 := Around_spec at_ 4 ha (by decide)
  have hA2 := Around_spec place 20 hpl (by decide)
  have r1 := around_range at_ 4 (by decide)
  have r2 := around_range place 20 (by decide)
  obtain ⟨k, hk⟩ : ∃ k : Nat, around at_ 4 = (k : Int) := ⟨(around at_ 4).toNat, by omega⟩
  obtain ⟨p, hp⟩ : ∃ p : Nat, around place 20 = (p : Int) := ⟨(around place 20).toNat, by omega⟩
  rw [hk] at hA1 r1
  rw [hp] at hA2 r2
  have hk4 : k < 4 := by omega
  have hp20 : p < 20 := by omega
  clear hk hp
  obtain ⟨y, hy⟩ : ∃ y : Nat, y = if by0 = 0 then 1 else by0 := ⟨_, rfl⟩
  have hy256 : y < 256 := by rw [hy]; split <;> omega
  have hy0 : y ≠ 0 := by rw [hy]; split <;> omega
  have hc20 : (sealB own).length = 20 := by rw [sealB_len, hol]
  have hcu := sealB_ok hou
  have hcn := sealB_ne own
  have hco : cOpen (sealB own) = (own, 0) := cOpen_seal hol
  have hfl : (flipB (sealB own) p y).length = 20 := by rw [flipB_len, hc20]
  have hfu : u8ok (flipB (sealB own) p y) := flipB_ok hcu p hy256
  have hfo : cOpen (flipB (sealB own) p y) = ([], 9) := by
    unfold cOpen
    rw [if_neg (by rw [hfl]; decide), if_neg (flip_bad hol hou hp20 hy0 hy256)]
  have htt := turns_turn (sealB own) hk4 hp20 y
  generalize flipB (sealB own) p y = f at *
  have w1 : ∀ d : Dv, d.lasts.length = 4 → d.write k own = (d.setLater k (sealB own), 0) := fun d hd => by
    unfold Dv.write
    rw [if_pos ⟨by omega, by rw [hd]; omega⟩, if_pos hol]
  generalize sealB own = c at *
  have i0 : (Dv.new 4).in_ (k : Int) := new4_in hk4
  have ok1 : ((Dv.new 4).setLater k c).Ok := hok.setLater (.inr ⟨hc20, hcu⟩)
  have ok2 : ((Dv.new 4).setLast k c).Ok := hok.setLast ⟨hc20, hcu⟩
  have ok3 : ((Dv.new 4).setLast k f).Ok := hok.setLast ⟨hfl, hfu⟩
  have ok4 : (((Dv.new 4).setLast k f).setLater k c).Ok := ok3.setLater (.inr ⟨hc20, hcu⟩)
  have hW1 := fun b H h a cc r hr => DWrite_spec (Dv.new 4) hok b H h k own hou a cc r hr
  have hB1 := fun b H h => DBarrier_spec _ ok1 b H h 0 4
  have hT := fun b H h => DTurn_spec _ ok2 b H h k p y hy256
  have hR1 := fun b H h => DRead_spec _ ok3 b H h k
  have hW2 := fun b H h a cc r hr => DWrite_spec _ ok3 b H h k own hou a cc r hr
  have hR2 := fun b H h => DRead_spec _ ok4 b H h k
  have hL1 := fun b H h => DLasting_spec _ ok4 b H h k
  have hB2 := fun b H h => DBarrier_spec _ ok4 b H h k ((k : Int) + 1)
  have hL2 := fun b H h => DLasting_spec _ ok2 b H h k
  have hrd4 : (((Dv.new 4).setLast k f).setLater k c).read k = (own, 0) := by
    unfold Dv.read
    have : (((Dv.new 4).setLast k f).setLater k c).late k = if (k : Int) = k then c else ((Dv.new 4).setLast k f).late k := getD_set i0 (by omega)
    rw [if_pos (setLater_in.2 (setLast_in.2 i0)), this, if_pos rfl, if_neg hcn, hco]
  rw [w1 _ rfl] at hW1
  rw [turns_bar hcn hk4] at hB1
  rw [htt] at hT
  rw [turns_read f hk4, hfo] at hR1
  rw [w1 _ (by simp [Dv.setLast, Dv.new])] at hW2
  rw [hrd4] at hR2
  rw [turns_lasting f c hk4, hfo] at hL1
  rw [turns_bar2 hcn f hk4] at hB2
  rw [turns_lasting2 c hk4, hco] at hL2
  unfold TwoOwn at hR1 hR2 hL1 hL2
  simp only [hol] at hW1 hW2 hR2 hL2
  simp only at hR1 hL1 hT
  generalize ((Dv.new 4).setLast k f).setLater k c = d4 at *
  generalize (Dv.new 4).setLast k f = d3 at *
  generalize (Dv.new 4).setLast k c = d2 at *
  generalize (Dv.new 4).setLater k c = d1 at *
  refine Ctr.enter (n := 125) [.tmp 8] [(0, _), (1, _), (2, _), (3, _)] Try.func6 rfl rfl rfl (lb rfl) Try.call6 ⟨rfl, rfl, rfl, rfl, trivial⟩ ?_
  intro cx fin fin0
  refine aG ?_
  repeat (first | refine gx ?_ | refine gN fun _ => ?_ | refine gB fun _ => ?_ | fail)
  refine aC (o := hN) (h := ?_)
  rintro _ _ (⟨h, rfl, rfl⟩ | ⟨_, b, H, rfl, rfl, h0⟩)
  · exact absurd (show (1 : Int) ≤ 4 ∧ (4 : Int) ≤ 1024 by decide) h
  refine aG ?_
  repeat (first | refine gx ?_ | refine gN fun _ => ?_ | refine gB fun _ => ?_ | fail)
  by_cases hz : by0 = 0
  case' pos =>
    obtain rfl : y = 1 := by rw [hy, if_pos hz]
    have hzi : (by0 : Int) = 0 := by omega
    repeat (first | refine gh hzi ?_ | refine gN fun _ => ?_ | refine gB fun _ => ?_ | fail)
  case' neg =>
    obtain rfl : y = by0 := by rw [hy, if_neg hz]
    have hzi : ¬ (y : Int) = 0 := by omega
    repeat (first | refine gh hzi ?_ | refine gN fun _ => ?_ | refine gB fun _ => ?_ | fail)
  all_goals
    refine aC (o := hA1) (h := ?_) (hro := RoIn.nil)
    rintro _ _ ⟨rfl, rfl⟩
    refine aG ?_
    repeat (first | refine gx ?_ | refine gN fun _ => ?_ | refine gB fun _ => ?_ | fail)
    refine aC (o := hA2) (h := ?_) (hro := RoIn.nil)
    rintro _ _ ⟨rfl, rfl⟩
    refine aG ?_
    repeat (first | refine gx ?_ | refine gN fun _ => ?_ | refine gB fun _ => ?_ | fail)
    refine aC (o := hFi) (h := ?_) (hro := RoIn.all (fun q hq => hq))
    rintro _ _ ⟨a1, c1, O1, rfl, rfl, ho1⟩
    refine aG ?_
    repeat (first | refine gx ?_ | refine gN fun _ => ?_ | refine gB fun _ => ?_ | fail)
    refine aC (o := hW1 b H h0 a1 c1 O1 (Own.roSl ho1)) (h := ?_) (hro := RoIn.own 0 rfl)
    rintro _ _ ⟨H1, rfl, rfl, h1⟩
    refine aG ?_
    repeat (first | refine gx ?_ | refine gN fun _ => ?_ | refine gB fun _ => ?_ | fail)
    refine aC (o := hB1 b H1 h1) (h := ?_)
    rintro _ _ ⟨H2, rfl, h2⟩
    refine aG ?_
    repeat (first | refine gx ?_ | refine gN fun _ => ?_ | refine gB fun _ => ?_ | fail)
    refine aC (o := hT b H2 h2) (h := ?_)
    rintro _ _ ⟨H3, rfl, rfl, h3⟩
    refine aG ?_
    repeat (first | refine gx ?_ | refine gN fun _ => ?_ | refine gB fun _ => ?_ | fail)
    refine aC (o := hR1 b H3 h3) (h := ?_) (hro := RoIn.own 0 rfl)
    rintro _ _ ⟨a2, c2, O2, rfl, rfl, ho2⟩
    refine aG ?_
    repeat (first | refine gx ?_ | refine gN fun _ => ?_ | refine gB fun _ => ?_ | fail)
    refine aC (o := hW2 b H3 h3 a1 c1 O1 (Own.roSl ho1)) (h := ?_) (hro := RoIn.own 1 rfl)
    rintro _ _ ⟨H4, rfl, rfl, h4⟩
    refine aG ?_
    repeat (first | refine gx ?_ | refine gN fun _ => ?_ | refine gB fun _ => ?_ | fail)
    refine aC (o := hR2 b H4 h4) (h := ?_) (hro := RoIn.own 0 rfl)
    rintro _ _ ⟨a3, c3, O3, rfl, rfl, ho3⟩
    refine aG ?_
    repeat (first | refine gx ?_ | refine gN fun _ => ?_ | refine gB fun _ => ?_ | fail)
    refine aC (o := hL1 b H4 h4) (h := ?_) (hro := RoIn.own 1 rfl)
    rintro _ _ ⟨a4, c4, O4, rfl, rfl, ho4⟩
    refine aG ?_
    repeat (first | refine gx ?_ | refine gN fun _ => ?_ | refine gB fun _ => ?_ | fail)
    refine aC (o := hB2 b H4 h4) (h := ?_)
    rintro _ _ ⟨H5, rfl, h5⟩
    refine aG ?_
    repeat (first | refine gx ?_ | refine gN fun _ => ?_ | refine gB fun _ => ?_ | fail)
    refine aC (o := hL2 b H5 h5) (h := ?_) (hro := RoIn.own 0 rfl)
    rintro _ _ ⟨a5, c5, O5, rfl, rfl, ho5⟩
    refine aG ?_
    repeat (first | refine gx ?_ | refine gN fun _ => ?_ | refine gB fun _ => ?_ | fail)
    refine aV (OpVal.bytesStr tab_ok rfl rfl rfl rfl (Own.roSl ho3) (fun q hq => .inl (by simp [hq]))) ?_
    repeat (first | refine gx ?_ | refine gN fun _ => ?_ | refine gB fun _ => ?_ | fail)
    refine aV (OpVal.bytesStr tab_ok rfl rfl rfl rfl (Own.roSl ho1) (fun q hq => .inl (by simp [hq]))) ?_
    repeat (first | refine gx ?_ | refine gN fun _ => ?_ | refine gB fun _ => ?_ | fail)
    refine aV (OpVal.eqStr rfl rfl) ?_
    repeat (first | refine gx ?_ | refine gN fun _ => ?_ | refine gB fun _ => ?_ | fail)
    refine aV (OpVal.bytesStr tab_ok rfl rfl rfl rfl (Own.roSl ho5) (fun q hq => .inl (by simp [hq]))) ?_
    repeat (first | refine gx ?_ | refine gN fun _ => ?_ | refine gB fun _ => ?_ | fail)
    refine aV (OpVal.bytesStr tab_ok rfl rfl rfl rfl (Own.roSl ho1) (fun q hq => .inl (by simp [hq]))) ?_
    repeat (first | refine gx ?_ | refine gN fun _ => ?_ | refine gB fun _ => ?_ | fail)
    refine aV (OpVal.eqStr rfl rfl) ?_
    repeat (first | refine gx ?_ | refine gN fun _ => ?_ | refine gB fun _ => ?_ | fail)
    refine aC (o := Lives_spec) (h := ?_) (hro := RoIn.nil)
    rintro _ _ ⟨rfl, rfl⟩
    refine aG ?_
    repeat (first | refine gx ?_ | refine gN fun _ => ?_ | refine gB fun _ => ?_ | fail)
    refine W.ret (fin _ _ (FinOk.mk' ([]) (.tmp rfl .nil) (by repeat (first | exact Sel.nil | (apply Sel.cons; (repeat (first | exact Pick.here | apply Pick.there))))) rfl ?_))
    exact ⟨by simp [pack], rfl⟩
end Go.Proofs.Ytpimbaphenignaa
