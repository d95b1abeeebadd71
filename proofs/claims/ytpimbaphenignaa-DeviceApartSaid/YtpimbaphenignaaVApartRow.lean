/-
  The row of DeviceApart: the contract, read as the statement says.
-/
import Derived.Test.YtpimbaphenignaaVz
import Derived.Test.YtpimbaphenignaaVzb
import Derived.Test.YtpimbaphenignaaOp
namespace Go.Proofs.Ytpimbaphenignaa.DeviceApart
open Go Go.Sl Go.RowKit Go.ChangeShapes Go.WideShapes Go.ChangeAt
theorem own : ownKnob Try.prog.godebug = none := by kernel_rfl
theorem laidOut : laidOutB Try.prog = true := by kernel_rfl
set_option maxRecDepth 100000 in
theorem lifted (os : Os) (started : os.Started) (H : Type) (enc : TypeId × Value → H) :
    ReturnsInHanded {} Try.checked os 7 .any (Rows.deviceApartSpec.pre6 enc Try.prog Try.f7 Rows.deviceApartRow.domain false) (Rows.deviceApartSpec.post enc Try.prog Try.f7 false true false false) := by
  refine returnsInHanded_of_change_sized (C := Try.checked) own started (by kernel_rfl) Try.func7
    (ChangeSpec.witness6 (enc := enc) (C := Try.checked) false ⟨#[], #[.slice none 0 0, .int .i64 0, .int .i64 0, .bool false, .slice none 0 0], []⟩ 8 (by kernel_rfl) (by kernel_rfl) (by kernel_rfl) (by kernel_rfl)) ?_
  intro W base args ds gs before hval0 hW hcnd hsz _
  have hval : ∀ (j : Nat) t v, Try.f7.params[j]? = some t → args[j]? = some v → Value.okWide Try.prog W .any base t v := hval0
  have hW' := hW
  obtain ⟨p, q, hA0, hV, rfl, hfz, hnd⟩ := hW
  have hA : DataW.TrodAll enc Try.prog W 0 (fun _ => true) true Try.f7.params.toList args.toList ds p := hA0
  rw [Try.params7] at hA hval
  obtain ⟨v0, vs0, d0, ds0, p0, q0, hargs0, rfl, rfl, g0, r0⟩ := trodAll_cons hA
  obtain ⟨v1, vs1, d1, ds1, p1, q1, hargs1, rfl, rfl, g1, r1⟩ := trodAll_cons r0
  obtain ⟨v2, vs2, d2, ds2, p2, q2, hargs2, rfl, rfl, g2, r2⟩ := trodAll_cons r1
  obtain ⟨v3, vs3, d3, ds3, p3, q3, hargs3, rfl, rfl, g3, r3⟩ := trodAll_cons r2
  obtain ⟨v4, vs4, d4, ds4, p4, q4, hargs4, rfl, rfl, g4, r4⟩ := trodAll_cons r3
  obtain ⟨hz, rfl, rfl⟩ := trodAll_nil r4
  obtain rfl : args = #[v0, v1, v2, v3, v4] := by cases args; simp_all
  clear hargs0 hargs1 hargs2 hargs3 hargs4 hz
  obtain ⟨rfl, rfl⟩ := trodVars_none hV
  have h0 := hval 0 22 v0 rfl rfl
  have h1 := hval 1 3 v1 rfl rfl
  have h2 := hval 2 3 v2 rfl rfl
  have h3 := hval 3 4 v3 rfl rfl
  have h4 := hval 4 23 v4 rfl rfl
  obtain ⟨os, ao, co, roo, rfl, hroo, hoin, hos⟩ := open_Os Try.underlying22 (by kernel_rfl) h0 g0
  obtain ⟨f0, rfl, rfl, rfl, wf00⟩ := open_int Try.underlying3 h1 g1
  have wf0 : i64s f0 := wf_i64 wf00
  obtain ⟨t0, rfl, rfl, rfl, wt00⟩ := open_int Try.underlying3 h2 g2
  have wt0 : i64s t0 := wf_i64 wt00
  obtain ⟨cr, rfl, rfl, rfl⟩ := open_bool Try.underlying4 h3 g3
  obtain ⟨s, rfl, hs⟩ := Opens.argSl (Opens.bool Try.underlying4 (by kernel_rfl)) (by decide) Try.underlying23 (by kernel_rfl) h4 g4
  have hkl : s.xs.length ≤ 140737488351232 := keep_sized g4 Try.underlying23 (by kernel_rfl) hsz (j := 4) (by rw [Try.params7]; rfl) rfl
  refine ((DeviceApart_spec os hos ao co roo hroo f0 t0 wf0 wt0 cr s.xs hkl s.a s.cap s.ro hs.ro).below (W := W) (ro := roo ++ (ros os ++ s.ro)) (fun p hp => by rw [← List.append_assoc] at hp; exact (List.mem_append.1 hp).elim (hoin p) (hs.mem p)) (v := .bool true) (fun u L' h => h.1)).mono fun e W' ⟨he, hb⟩ => ?_
  subst he
  exact ⟨_, rfl, law_end laidOut (by kernel_rfl) rfl Try.underlying4 hW' rfl rfl rfl rfl hb⟩
theorem proved : Rows.DeviceApartSaid :=
  OpenClaim.holds_of_wide 7 Try.f7 rfl rfl rfl rfl rfl rfl rfl ⟨rfl, rfl, rfl, rfl, rfl⟩ rfl rfl rfl rfl rfl (by kernel_rfl) Try.func7 (by kernel_rfl)
    (of_decide_eq_true (by kernel_rfl)) (by unfold Func.isWrapper; first | (rw [if_pos (by decide +kernel)]; kernel_rfl) | (rw [if_neg (by decide +kernel)]; exact ⟨rfl, rfl⟩))
    (fun os started H enc _ => lifted os started H enc)
#print axioms proved
end Go.Proofs.Ytpimbaphenignaa.DeviceApart
