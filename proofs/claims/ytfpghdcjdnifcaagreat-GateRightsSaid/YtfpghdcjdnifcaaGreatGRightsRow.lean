/-
  The row of GateRights: the contract, read as the statement says.
-/
import Derived.Test.YtfpghdcjdnifcaaGreatZ4
namespace Go.Proofs.YtfpghdcjdnifcaaGreat.GateRights
open Go Go.Sl Go.RowKit Go.ChangeShapes Go.WideShapes Go.ChangeAt
theorem own : ownKnob Tryz.prog.godebug = none := by kernel_rfl
theorem laidOut : laidOutB Tryz.prog = true := by kernel_rfl
set_option maxRecDepth 100000 in
theorem lifted (os : Os) (started : os.Started) (H : Type) (enc : TypeId × Value → H) :
    ReturnsInHanded {} Tryz.checked os 4 .any (Rows.gateRightsSpec.pre6 enc Tryz.prog Tryz.f4 Rows.gateRightsRow.domain false) (Rows.gateRightsSpec.post enc Tryz.prog Tryz.f4 false true false false) := by
  refine returnsInHanded_of_change (C := Tryz.checked) own started (by kernel_rfl) Tryz.func4
    (ChangeSpec.witness6 (enc := enc) (C := Tryz.checked) false ⟨#[], #[.int .i64 0, .int .i64 0], []⟩ 8 (by kernel_rfl) (by kernel_rfl) (by kernel_rfl) (by kernel_rfl)) ?_
  intro W base args ds gs before hval0 hW hcnd _
  have hval : ∀ (j : Nat) t v, Tryz.f4.params[j]? = some t → args[j]? = some v → Value.okWide Tryz.prog W .any base t v := hval0
  have hW' := hW
  obtain ⟨p, q, hA0, hV, rfl, hfz, hnd⟩ := hW
  have hA : DataW.TrodAll enc Tryz.prog W 0 (fun _ => true) true Tryz.f4.params.toList args.toList ds p := hA0
  rw [Tryz.params4] at hA hval
  obtain ⟨v0, vs0, d0, ds0, p0, q0, hargs0, rfl, rfl, g0, r0⟩ := trodAll_cons hA
  obtain ⟨v1, vs1, d1, ds1, p1, q1, hargs1, rfl, rfl, g1, r1⟩ := trodAll_cons r0
  obtain ⟨hz, rfl, rfl⟩ := trodAll_nil r1
  obtain rfl : args = #[v0, v1] := by cases args; simp_all
  clear hargs0 hargs1 hz
  obtain ⟨rfl, rfl⟩ := trodVars_none hV
  have h0 := hval 0 3 v0 rfl rfl
  have h1 := hval 1 3 v1 rfl rfl
  obtain ⟨s, rfl, rfl, rfl, ws0⟩ := open_int Tryz.underlying3 h0 g0
  have ws : i64s s := wf_i64 ws0
  obtain ⟨n, rfl, rfl, rfl, wn0⟩ := open_int Tryz.underlying3 h1 g1
  have wn : i64s n := wf_i64 wn0
  refine ((GateRights_spec s n ws wn).below (W := W) (ro := []) (fun _ h => by cases h) (v := .bool true) (fun u L' h => h.1)).mono fun e W' ⟨he, hb⟩ => ?_
  subst he
  exact ⟨_, rfl, law_end laidOut (by kernel_rfl) rfl Tryz.underlying4 hW' rfl rfl rfl rfl hb⟩
theorem anb {a b : Bool} (h1 : a = true) (h2 : b = true) : (a && b) = true := by rw [h1, h2]; rfl
set_option maxHeartbeats 8000000
set_option maxRecDepth 100000
theorem closed : joinedFacts Tryz.prog 4 Tryz.f4 Rows.gateRightsSpec Rows.gateRightsRow = true := by
  unfold joinedFacts
  iterate 31 refine anb ?_ ?_
  all_goals as_aux_lemma => kernel_rfl
theorem instanced : Tryz.f4.isInstance Tryz.prog Rows.gateRightsRow.origin Rows.gateRightsRow.targs := of_decide_eq_true (by as_aux_lemma => kernel_rfl)
theorem wrapped : Tryz.f4.isWrapper Tryz.prog Rows.gateRightsRow.wrapper Rows.gateRightsRow.mainSum := by
  unfold Func.isWrapper; first | (rw [if_pos (by decide +kernel)]; as_aux_lemma => kernel_rfl) | (rw [if_neg (by decide +kernel)]; exact ⟨rfl, rfl⟩)
theorem named : Tryz.prog.funcNamed Rows.gateRightsRow.func = some 4 := by as_aux_lemma => kernel_rfl
theorem proved : Rows.GateRightsSaid :=
  OpenClaim.holds_of_wide 4 Tryz.f4 rfl rfl rfl rfl rfl rfl rfl ⟨rfl, rfl, rfl, rfl, rfl⟩ rfl rfl rfl rfl rfl named Tryz.func4 closed
    instanced wrapped
    (fun os started H enc _ => lifted os started H enc)
#print axioms proved
end Go.Proofs.YtfpghdcjdnifcaaGreat.GateRights
