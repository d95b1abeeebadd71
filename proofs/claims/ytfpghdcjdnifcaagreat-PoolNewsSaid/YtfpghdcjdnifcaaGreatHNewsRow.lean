/-
  The row of PoolNews: the contract, read as the statement says.
-/
import Derived.Test.YtfpghdcjdnifcaaGreatP5
namespace Go.Proofs.YtfpghdcjdnifcaaGreat.PoolNews
open Go Go.Sl Go.RowKit Go.ChangeShapes Go.WideShapes Go.ChangeAt
theorem own : ownKnob Tryz.prog.godebug = none := by kernel_rfl
theorem laidOut : laidOutB Tryz.prog = true := by kernel_rfl
set_option maxRecDepth 100000 in
theorem lifted (os : Os) (started : os.Started) (H : Type) (enc : TypeId × Value → H) :
    ReturnsInHanded {} Tryz.checked os 6 .any (Rows.poolNewsSpec.pre6 enc Tryz.prog Tryz.f6 Rows.poolNewsRow.domain false) (Rows.poolNewsSpec.post enc Tryz.prog Tryz.f6 false true false false) := by
  refine returnsInHanded_of_change (C := Tryz.checked) own started (by kernel_rfl) Tryz.func6
    (ChangeSpec.witness6 (enc := enc) (C := Tryz.checked) false ⟨#[], #[.agg #[.int .i64 0, .int .i64 0, .int .i64 0, .slice none 0 0]], []⟩ 8 (by kernel_rfl) (by kernel_rfl) (by kernel_rfl) (by kernel_rfl)) ?_
  intro W base args ds gs before hval0 hW hcnd _
  have hval : ∀ (j : Nat) t v, Tryz.f6.params[j]? = some t → args[j]? = some v → Value.okWide Tryz.prog W .any base t v := hval0
  have hW' := hW
  obtain ⟨p, q, hA0, hV, rfl, hfz, hnd⟩ := hW
  have hA : DataW.TrodAll enc Tryz.prog W 0 (fun _ => true) true Tryz.f6.params.toList args.toList ds p := hA0
  rw [Tryz.params6] at hA hval
  obtain ⟨v0, vs0, d0, ds0, p0, q0, hargs0, rfl, rfl, g0, r0⟩ := trodAll_cons hA
  obtain ⟨hz, rfl, rfl⟩ := trodAll_nil r0
  obtain rfl : args = #[v0] := by cases args; simp_all
  clear hargs0 hz
  obtain ⟨rfl, rfl⟩ := trodVars_none hV
  have h0 := hval 0 24 v0 rfl rfl
  obtain ⟨c, ac, cc, roc, rfl, hcin, hcmax, hccap, hcro, hcmem⟩ := open_cfg h0 g0
  refine ((PoolNews_spec c hcin hcmax ac cc hccap roc hcro).below (W := W) (ro := roc) (hcmem) (v := .bool true) (fun u L' h => h.1)).mono fun e W' ⟨he, hb⟩ => ?_
  subst he
  exact ⟨_, rfl, law_end laidOut (by kernel_rfl) rfl Tryz.underlying4 hW' rfl rfl rfl rfl hb⟩
theorem anb {a b : Bool} (h1 : a = true) (h2 : b = true) : (a && b) = true := by rw [h1, h2]; rfl
set_option maxHeartbeats 8000000
set_option maxRecDepth 100000
theorem closed : joinedFacts Tryz.prog 6 Tryz.f6 Rows.poolNewsSpec Rows.poolNewsRow = true := by
  unfold joinedFacts
  iterate 31 refine anb ?_ ?_
  all_goals as_aux_lemma => kernel_rfl
theorem instanced : Tryz.f6.isInstance Tryz.prog Rows.poolNewsRow.origin Rows.poolNewsRow.targs := of_decide_eq_true (by as_aux_lemma => kernel_rfl)
theorem wrapped : Tryz.f6.isWrapper Tryz.prog Rows.poolNewsRow.wrapper Rows.poolNewsRow.mainSum := by
  unfold Func.isWrapper; first | (rw [if_pos (by decide +kernel)]; as_aux_lemma => kernel_rfl) | (rw [if_neg (by decide +kernel)]; exact ⟨rfl, rfl⟩)
theorem named : Tryz.prog.funcNamed Rows.poolNewsRow.func = some 6 := by as_aux_lemma => kernel_rfl
theorem proved : Rows.PoolNewsSaid :=
  OpenClaim.holds_of_wide 6 Tryz.f6 rfl rfl rfl rfl rfl rfl rfl ⟨rfl, rfl, rfl, rfl, rfl⟩ rfl rfl rfl rfl rfl named Tryz.func6 closed
    instanced wrapped
    (fun os started H enc _ => lifted os started H enc)
#print axioms proved
end Go.Proofs.YtfpghdcjdnifcaaGreat.PoolNews
