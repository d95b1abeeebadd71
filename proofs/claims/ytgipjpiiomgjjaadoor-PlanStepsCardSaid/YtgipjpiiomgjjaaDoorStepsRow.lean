/-
  The row of PlanSteps: the contract, read as the statement says.
-/
import Derived.Test.YtgipjpiiomgjjaaDoorLe
import Derived.Test.YtgipjpiiomgjjaaDoorOp
import Derived.Test.YtgipjpiiomgjjaaDoorRows
import Derived.Test.YtgipjpiiomgjjaaDoorCards
import Derived.Test.YtgipjpiiomgjjaaDoorTie
import Derived.LaidMore
import Derived.OpenShut
import Derived.ProofKit
import Derived.LaidLaws
import Derived.SevenTiedAt
import Derived.Stop.Joined
import Derived.Stop.LaidErr
import Derived.Lib.LaidTab
import Derived.Test.YtgipjpiiomgjjaaDoorOp
namespace Go.Proofs.YtgipjpiiomgjjaaDoor.PlanSteps
open Go Go.Sl Go.RowKit Go.ChangeShapes Go.WideShapes Go.ChangeAt
theorem own : ownKnob Tryd.prog.godebug = none := by kernel_rfl
theorem laidOut : laidOutB Tryd.prog = true := by kernel_rfl
set_option maxRecDepth 100000
abbrev laid := Rows.planStepsRow.laid
theorem door_met (os : Os) (args : Array Value) : laidMetH Tryd.prog laid ((World.doorLaid Tryd.prog 400 os).forCall (fun _ _ => 0) ⟨#[], args, []⟩).memory :=
  laidMetH_of_parts3 (fuel := 8) (laidMet_of_run' 8 (by kernel_rfl) (by kernel_rfl)) (by kernel_rfl) (by kernel_rfl)
theorem lifted (os : Os) (started : os.Started) (H : Type) (enc : TypeId × Value → H) :
    ReturnsInHanded {} Tryd.checked os 5 .any (fun w args => (Rows.planStepsSpec.pre enc Tryd.prog Tryd.f5 [] false w args ∧ laidMetH Tryd.prog laid w) ∧ sizedMet enc Tryd.prog Tryd.f5 (OpenSpec.ofChange Rows.planStepsSpec) false w args)
      (Rows.planStepsSpec.post enc Tryd.prog Tryd.f5 false true false false) := by
  refine returnsInHanded_of_change_and (C := Tryd.checked) (X := fun w _ => laidMetH Tryd.prog laid w) (fun _ _ _ hh h => h.of_heap hh) own started (by kernel_rfl) Tryd.func5
    (ChangeSpec.witness_shaped (enc := enc) (C := Tryd.checked) (os := os) (X := fun w _ => laidMetH Tryd.prog laid w) false (World.doorLaid Tryd.prog 400 os) #[.int .i64 0, .int .i64 0, .bool false, .slice none 0 0] 8 rfl (World.shaped_of_RefB (by kernel_rfl) (by kernel_rfl)) (by kernel_rfl) (by kernel_rfl) (by kernel_rfl) (door_met os _)) ?_
  intro W base args ds gs before hval0 hW hcnd _ hL _
  rw [MakeChecks.laidMetH_plain _ _ _ (by kernel_rfl)] at hL
  have hval : ∀ (j : Nat) t v, Tryd.f5.params[j]? = some t → args[j]? = some v → Value.okWide Tryd.prog W .any base t v := hval0
  have hW' := hW
  obtain ⟨p, q, hA0, hV, rfl, hfz, hnd⟩ := hW
  have hA : DataW.TrodAll enc Tryd.prog W 0 (fun _ => true) true Tryd.f5.params.toList args.toList ds p := hA0
  rw [Tryd.params5] at hA hval
  obtain ⟨v0, vs0, d0, ds0, p0, q0, hargs0, rfl, rfl, g0, r0⟩ := trodAll_cons hA
  obtain ⟨v1, vs1, d1, ds1, p1, q1, hargs1, rfl, rfl, g1, r1⟩ := trodAll_cons r0
  obtain ⟨v2, vs2, d2, ds2, p2, q2, hargs2, rfl, rfl, g2, r2⟩ := trodAll_cons r1
  obtain ⟨v3, vs3, d3, ds3, p3, q3, hargs3, rfl, rfl, g3, r3⟩ := trodAll_cons r2
  obtain ⟨hz, rfl, rfl⟩ := trodAll_nil r3
  obtain rfl : args = #[v0, v1, v2, v3] := by cases args; simp_all
  clear hargs0 hargs1 hargs2 hargs3 hz
  obtain ⟨rfl, rfl⟩ := trodVars_none hV
  have h0 := hval 0 3 v0 rfl rfl
  have h1 := hval 1 3 v1 rfl rfl
  have h2 := hval 2 4 v2 rfl rfl
  have h3 := hval 3 30 v3 rfl rfl
  obtain ⟨x, rfl, rfl, rfl, wx0⟩ := open_int Tryd.underlying3 h0 g0
  have wx : i64s x := wf_i64 wx0
  obtain ⟨y, rfl, rfl, rfl, wy0⟩ := open_int Tryd.underlying3 h1 g1
  have wy : i64s y := wf_i64 wy0
  obtain ⟨b, rfl, rfl, rfl⟩ := open_bool Tryd.underlying4 h2 g2
  obtain ⟨s, rfl, hs⟩ := Opens.argSl (Opens.int (kk := .i64) Tryd.underlying3 (by kernel_rfl) (fun _ h => wf_i64 h)) (by decide) Tryd.underlying30 (by kernel_rfl) h3 g3
  refine ((PlanSteps_spec x y b s.xs s.a s.cap hs.cap _ hs.ro).below (W := W) (ro := s.ro) (hs.mem) (v := .bool true) (fun u L' h => h.1)).mono fun e W' ⟨he, hb⟩ => ?_
  subst he
  exact ⟨_, rfl, law_end laidOut (by kernel_rfl) rfl Tryd.underlying4 hW' rfl rfl rfl rfl hb⟩
theorem row_holds : Rows.PlanStepsSaid :=
  OpenClaim.holds_of_wide 5 Tryd.f5 rfl rfl rfl rfl rfl rfl rfl ⟨rfl, rfl, rfl, rfl, rfl⟩ rfl rfl rfl rfl rfl (by kernel_rfl) Tryd.func5 (by kernel_rfl)
    (of_decide_eq_true (by kernel_rfl)) (by unfold Func.isWrapper; first | (rw [if_pos (by decide +kernel)]; kernel_rfl) | (rw [if_neg (by decide +kernel)]; exact ⟨rfl, rfl⟩))
    (fun os started H enc _ => lifted os started H enc)
theorem proved : Rows.PlanStepsCardSaid :=
  Claim7.holds_tied_plain_at .later [] [.data, .data, .data] true Rows.planStepsCard.stood.harness false
    row_holds (fun _ h => by cases h) (by kernel_rfl) (fun _ h => by cases h) planSteps_row_tie rfl ⟨rfl, rfl⟩ (by kernel_rfl) rfl
    (fun f fn hf hfn => by
      obtain rfl : 5 = f := Option.some.inj (Eq.trans (by kernel_rfl) hf)
      obtain rfl : fn = Tryd.f5 := (Option.some.inj (Tryd.func5.symm.trans hfn)).symm
      exact ⟨by kernel_rfl, fun j t ht => by
        rw [Tryd.params5] at ht
        have hm : t ∈ [3, 3, 4, 30] := by simpa using Array.mem_of_getElem? ht
        have hall : ([3, 3, 4, 30].all fun u => !Tryd.prog.wantsStandIn u) = true := by kernel_rfl
        exact (show Tryd.prog.wantsStandIn t = false by simpa using List.all_eq_true.1 hall t hm)⟩)
    (by kernel_rfl)
#print axioms proved
end Go.Proofs.YtgipjpiiomgjjaaDoor.PlanSteps
