/-
  The row of TenantRow: the contract, read as the statement says.
-/
import Derived.Test.YtfajcpnbhnddbaaGreatZ6
namespace Go.Proofs.YtfajcpnbhnddbaaGreat.TenantRow
open Go Go.Sl Go.RowKit Go.ChangeShapes Go.WideShapes Go.ChangeAt
theorem own : ownKnob Tryz.prog.godebug = none := by kernel_rfl
theorem laidOut : laidOutB Tryz.prog = true := by kernel_rfl
set_option maxRecDepth 100000 in
theorem lifted (os : Os) (started : os.Started) (H : Type) (enc : TypeId × Value → H) :
    ReturnsInHanded {} Tryz.checked os 3 .any (Rows.tenantRowSpec.pre6 enc Tryz.prog Tryz.f3 Rows.tenantRowRow.domain false) (Rows.tenantRowSpec.post enc Tryz.prog Tryz.f3 false true false false) := by
  refine returnsInHanded_of_change (C := Tryz.checked) own started (by kernel_rfl) Tryz.func3
    (ChangeSpec.witness6 (enc := enc) (C := Tryz.checked) false ⟨#[], #[.int .i64 0, .slice none 0 0], []⟩ 8 (by kernel_rfl) (by kernel_rfl) (by kernel_rfl) (by kernel_rfl)) ?_
  intro W base args ds gs before hval0 hW hcnd _
  have hval : ∀ (j : Nat) t v, Tryz.f3.params[j]? = some t → args[j]? = some v → Value.okWide Tryz.prog W .any base t v := hval0
  have hW' := hW
  obtain ⟨p, q, hA0, hV, rfl, hfz, hnd⟩ := hW
  have hA : DataW.TrodAll enc Tryz.prog W 0 (fun _ => true) true Tryz.f3.params.toList args.toList ds p := hA0
  rw [Tryz.params3] at hA hval
  obtain ⟨v0, vs0, d0, ds0, p0, q0, hargs0, rfl, rfl, g0, r0⟩ := trodAll_cons hA
  obtain ⟨v1, vs1, d1, ds1, p1, q1, hargs1, rfl, rfl, g1, r1⟩ := trodAll_cons r0
  obtain ⟨hz, rfl, rfl⟩ := trodAll_nil r1
  obtain rfl : args = #[v0, v1] := by cases args; simp_all
  clear hargs0 hargs1 hz
  obtain ⟨rfl, rfl⟩ := trodVars_none hV
  have h0 := hval 0 3 v0 rfl rfl
  have h1 := hval 1 22 v1 rfl rfl
  obtain ⟨dp, rfl, rfl, rfl, wdp0⟩ := open_int Tryz.underlying3 h0 g0
  have wdp : i64s dp := wf_i64 wdp0
  obtain ⟨os, ao, co, roo, rfl, hroo, hoin, hos⟩ := open_Qs Tryz.underlying22 (by kernel_rfl) h1 g1
  refine ((TenantRow_spec dp wdp os hos ao co roo hroo).below (W := W) (ro := roo ++ qros os) (hoin) (v := .bool true) (fun u L' h => h.1)).mono fun e W' ⟨he, hb⟩ => ?_
  subst he
  exact ⟨_, rfl, law_end laidOut (by kernel_rfl) rfl Tryz.underlying4 hW' rfl rfl rfl rfl hb⟩
theorem proved : Rows.TenantRowSaid :=
  OpenClaim.holds_of_wide 3 Tryz.f3 rfl rfl rfl rfl rfl rfl rfl ⟨rfl, rfl, rfl, rfl, rfl⟩ rfl rfl rfl rfl rfl (by kernel_rfl) Tryz.func3 (by kernel_rfl)
    (of_decide_eq_true (by kernel_rfl)) (by unfold Func.isWrapper; first | (rw [if_pos (by decide +kernel)]; kernel_rfl) | (rw [if_neg (by decide +kernel)]; exact ⟨rfl, rfl⟩))
    (fun os started H enc _ => lifted os started H enc)
#print axioms proved
end Go.Proofs.YtfajcpnbhnddbaaGreat.TenantRow
