/-
  The document's example; a request to its end.
-/
import Derived.Test.YtgipjpiiomgjjaaMn
namespace Go.Proofs.Ytgipjpiiomgjjaa
open Go Go.Sl Go.IntWalk
set_option maxHeartbeats 8000000
set_option maxRecDepth 20000
def lq : Rq := ⟨1, 3, 0, 0, []⟩
def z16 : List Int := List.replicate 16 0
def l1 : Mc × Pt × Re := mBegin Mc.idle (Pt.new 1) lq
def l2 : Mc × Pt × Re := mEnd l1.1 l1.2.1 0 z16
def l3 : Mc × Pt × Re := mEnd l2.1 l2.2.1 0 z16
def l4 : Mc × Pt × Re := mBegin l3.1 l3.2.1 lq
theorem l1_is : l1.2.2 = ⟨false, 0, false, [], ⟨0, 1, 0, 0, 0, 0⟩⟩ ∧ l1.1.todo = [(1, 3, 0), (1, 3, 1)] := ⟨rfl, rfl⟩
theorem l2_is : l2.2.2 = ⟨false, 0, false, [], ⟨0, 0, 0, 0, 0, 0⟩⟩ ∧ l2.1.todo = [(1, 3, 1)] := ⟨rfl, rfl⟩
theorem l3_is : l3.2.2 = ⟨true, 0, false, [], ⟨0, 0, 0, 0, 0, 0⟩⟩ ∧ l3.1.todo = [] := ⟨rfl, rfl⟩
theorem l4_is : l4.2.2 = ⟨true, 0, true, [], ⟨1, 0, 0, 0, 0, 0⟩⟩ := rfl
theorem rep16 : repL 16 [Value.int .u8 0] = u8s z16 := rfl
theorem l0_inv : MInv Mc.idle (Pt.new 1) := idle_inv (Pt.new_inv (by decide) (by decide))
theorem nil_u8 : u8ok [] := fun b hb => by cases hb
theorem l1_inv : MInv l1.1 l1.2.1 := begin_inv l0_inv rfl (q := lq) (by decide) (by decide) nil_u8
theorem z16_u8 : u8ok z16 := fun b hb => by
  have := List.eq_of_mem_replicate hb
  omega
theorem l2_inv : MInv l2.1 l2.2.1 := end_inv l1_inv (by rw [l1_is.2]; simp) 0 z16_u8 rfl
theorem l3_inv : MInv l3.1 l3.2.1 := end_inv l2_inv (by rw [l2_is.2]; simp) 0 z16_u8 rfl
theorem Lives_spec : Ctr Try.prog 13 [] [] [] (fun v L' => v = .bool true ∧ L' = []) := by
  have hW := WBegin_spec 1 (by decide) (by decide)
  have n1 : l1.1.todo ≠ [] := by rw [l1_is.2]; simp
  have n2 : l2.1.todo ≠ [] := by rw [l2_is.2]; simp
  refine Ctr.enter (n := 86) [.tmp 0] [] Try.func13 rfl rfl rfl (lb rfl) Try.call13 trivial ?_
  intro cx fin fin0
  refine aG ?_
  repeat (first | refine gx ?_ | refine gN fun _ => ?_ | refine gB fun _ => ?_ | fail)
  refine aC (o := hW) (h := ?_)
  rintro _ _ ⟨b, bm, bp, Hw, Hm, Hp, rfl, rfl, a, c, r, at_, ct, rt, ag, cg, rg, D, rfl, h2, h3, h4, h5, h6, h7, h8, hm, hp⟩
  refine aG ?_
  have hB := Begin_spec Mc.idle bm bp Hm hm (Pt.new 1) l0_inv.inv Hp hp lq (by decide) (by decide) ⟨by decide, by decide⟩ none 0 [] ⟨rfl, .inl ⟨rfl, rfl⟩⟩
  rw [show mBegin Mc.idle (Pt.new 1) lq = l1 from rfl] at hB
  refine split2 rfl ?_
  refine aG ?_
  repeat (first | refine gx ?_ | refine gN fun _ => ?_ | refine gB fun _ => ?_ | fail)
  refine aBu (ps := [_, _]) ?_
  repeat (first | refine gx ?_ | refine gN fun _ => ?_ | refine gB fun _ => ?_ | fail)
  refine W.drawG tab_ok 7 8 [.b false, .b false, .b false, .b false, .b false, .b true, .f] [.b true] [3,4] follows (by decide) rfl (by decide +kernel) (by decide +kernel) (by decide) (by decide +kernel) rfl (by decide) rfl ?_
  intro _
  refine dG ?_
  repeat (first | refine dL ?_ | refine dS ?_ | (refine dN ?_; intro _; refine dG ?_) | (refine dB ?_; intro _; refine dG ?_) | fail)
  refine dC (o := hB) (h := ?_) (hro := RoIn.nil)
  rintro _ _ ⟨ar, nr, cr, Hm1, Hp1, Hd, rfl, rfl, g1, g2, g3, g4⟩
  refine dG ?_
  rw [l1_is.1]
  refine WD.float tab_ok rfl rfl (lb rfl) (dG ?_)
  refine WD.nil ?_
  intro _ _ _ e; cases e
  refine dG ?_
  repeat (first | refine dL ?_ | refine dS ?_ | (refine dN ?_; intro _; refine dG ?_) | (refine dB ?_; intro _; refine dG ?_) | fail)
  refine WD.nil (W.dropNil (aG ?_))
  have hI := Io_spec _ bm bp Hm1 g1
  have hU := Busy_spec _ bm bp Hm1 g1
  have hio : l1.1.io = (1, 3, 0) := by unfold Mc.io; rw [l1_is.2]; rfl
  rw [hio, l1_is.2] at hI
  rw [l1_is.2] at hU
  repeat (first | refine gx ?_ | refine gN fun _ => ?_ | refine gB fun _ => ?_ | fail)
  refine aC (o := hI) (h := ?_) (hro := RoIn.own 1 rfl)
  rintro _ _ ⟨rfl, rfl⟩
  refine aG ?_
  repeat (first | refine gx ?_ | refine gN fun _ => ?_ | refine gB fun _ => ?_ | fail)
  refine aC (o := hU) (h := ?_) (hro := RoIn.own 2 rfl)
  rintro _ _ ⟨rfl, rfl⟩
  refine aG ?_
  repeat (first | refine gx ?_ | refine gN fun _ => ?_ | refine gB fun _ => ?_ | fail)
  have hE := fun (bz : Nat) (cb : Nat) => End_spec _ n1 bm bp Hm1 g1 _ l1_inv.inv Hp1 g2 0 z16 (some ⟨bz, 0, none⟩) cb _ (own_roT bz z16 5) (got_len l1_inv rfl) (mStep_inv l1_inv n1 z16_u8 rfl).1 (end_load_inv l1_inv n1 z16_u8 rfl _ _)
  rw [show mEnd l1.1 l1.2.1 0 z16 = l2 from rfl] at hE
  rw [l2_is.1] at hE
  refine W.drawH tab_ok 6 [.b false, .b false, .b false, .b false, .b true, .b true] [2,3] follows (by decide +kernel) (by decide +kernel) rfl (by decide) rfl ?_
  intro _
  refine dG ?_
  repeat (first | refine dL ?_ | refine dS ?_ | (refine dN ?_; intro _; refine dG ?_) | (refine dB ?_; intro _; refine dG ?_) | fail)
  refine dW (NewOf.mks (bytes := 1) (len := 16) (cap := 16) tab_ok rfl rfl rfl rfl rfl rfl rfl rfl rfl (Nat.le_refl _) (by decide) (by decide)) ?_
  intro bz
  refine dG ?_
  rw [rep16]
  refine dC (o := hE bz 16) (h := ?_) (hro := RoIn.own 0 rfl)
  rintro _ _ ⟨Hm2, Hp2, rfl, rfl, k1, k2⟩
  refine dG ?_
  repeat (first | refine dL ?_ | refine dS ?_ | (refine dN ?_; intro _; refine dG ?_) | (refine dB ?_; intro _; refine dG ?_) | fail)
  refine WD.nil (W.dropNil (aG ?_))
  have hU2 := Busy_spec _ bm bp Hm2 k1
  rw [l2_is.2] at hU2
  have hE2 := fun (bz : Nat) (cb : Nat) => End_spec _ n2 bm bp Hm2 k1 _ l2_inv.inv Hp2 k2 0 z16 (some ⟨bz, 0, none⟩) cb _ (own_roT bz z16 5) (got_len l2_inv rfl) (mStep_inv l2_inv n2 z16_u8 rfl).1 (end_load_inv l2_inv n2 z16_u8 rfl _ _)
  rw [show mEnd l2.1 l2.2.1 0 z16 = l3 from rfl] at hE2
  rw [l3_is.1] at hE2
  repeat (first | refine gx ?_ | refine gN fun _ => ?_ | refine gB fun _ => ?_ | fail)
  refine aC (o := hU2) (h := ?_) (hro := RoIn.own 0 rfl)
  rintro _ _ ⟨rfl, rfl⟩
  refine aG ?_
  repeat (first | refine gx ?_ | refine gN fun _ => ?_ | refine gB fun _ => ?_ | fail)
  refine W.drawG tab_ok 7 8 [.b false, .b false, .b false, .b false, .b true, .b true, .f] [.b true] [0,1] follows (by decide) rfl (by decide +kernel) (by decide +kernel) (by decide) (by decide +kernel) rfl (by decide) rfl ?_
  intro _
  refine dG ?_
  repeat (first | refine dL ?_ | refine dS ?_ | (refine dN ?_; intro _; refine dG ?_) | (refine dB ?_; intro _; refine dG ?_) | fail)
  refine dW (NewOf.mks (bytes := 1) (len := 16) (cap := 16) tab_ok rfl rfl rfl rfl rfl rfl rfl rfl rfl (Nat.le_refl _) (by decide) (by decide)) ?_
  intro bz2
  refine dG ?_
  rw [rep16]
  refine dC (o := hE2 bz2 16) (h := ?_) (hro := RoIn.own 0 rfl)
  rintro _ _ ⟨Hm3, Hp3, rfl, rfl, q1, q2⟩
  refine dG ?_
  refine WD.float tab_ok rfl rfl (lb rfl) (dG ?_)
  refine WD.nil ?_
  intro _ _ _ e; cases e
  refine dG ?_
  repeat (first | refine dL ?_ | refine dS ?_ | (refine dN ?_; intro _; refine dG ?_) | (refine dB ?_; intro _; refine dG ?_) | fail)
  refine WD.nil (W.dropNil (aG ?_))
  have hB2 := Begin_spec _ bm bp Hm3 q1 _ l3_inv.inv Hp3 q2 lq (by decide) (by decide) ⟨by decide, by decide⟩ none 0 [] ⟨rfl, .inl ⟨rfl, rfl⟩⟩
  rw [show mBegin l3.1 l3.2.1 lq = l4 from rfl] at hB2
  refine W.drawG tab_ok 7 8 [.b false, .b false, .b false, .b false, .b false, .b true, .f] [.b true] [1,2] follows (by decide) rfl (by decide +kernel) (by decide +kernel) (by decide) (by decide +kernel) rfl (by decide) rfl ?_
  intro _
  refine dG ?_
  repeat (first | refine dL ?_ | refine dS ?_ | (refine dN ?_; intro _; refine dG ?_) | (refine dB ?_; intro _; refine dG ?_) | fail)
  refine dC (o := hB2) (h := ?_) (hro := RoIn.nil)
  rintro _ _ ⟨ar2, nr2, cr2, Hm4, Hp4, Hd4, rfl, rfl, _, _, _, _⟩
  refine dG ?_
  rw [l4_is]
  refine WD.float tab_ok rfl rfl (lb rfl) (dG ?_)
  refine WD.nil ?_
  intro _ _ _ e; cases e
  refine dG ?_
  repeat (first | refine dL ?_ | refine dS ?_ | (refine dN ?_; intro _; refine dG ?_) | (refine dB ?_; intro _; refine dG ?_) | fail)
  refine WD.nil (W.dropNil (aG ?_))
  repeat (first | refine gx ?_ | refine gN fun _ => ?_ | refine gB fun _ => ?_ | fail)
  refine W.ret (fin _ _ (FinOk.mk' ([]) (.tmp rfl .nil) (by repeat (first | exact Sel.nil | (apply Sel.cons; (repeat (first | exact Pick.here | apply Pick.there))))) rfl ?_))
  exact ⟨rfl, rfl⟩
end Go.Proofs.Ytgipjpiiomgjjaa
