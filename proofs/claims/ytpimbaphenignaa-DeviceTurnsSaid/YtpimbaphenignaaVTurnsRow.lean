/-
  The row of DeviceTurns: the contract, read as the statement says.
-/
import Derived.Test.YtpimbaphenignaaVx
import Derived.Test.YtpimbaphenignaaOp
namespace Go.Proofs.Ytpimbaphenignaa.DeviceTurns
open Go Go.Sl Go.RowKit Go.ChangeShapes Go.WideShapes Go.ChangeAt
theorem own : ownKnob Try.prog.godebug = none := by kernel_rfl
theorem laidOut : laidOutB Try.prog = true := by kernel_rfl
set_option maxRecDepth 100000 in
theorem lifted (os : Os) (started : os.Started) (H : Type) (enc : TypeId × Value → H) :
    ReturnsInHanded {} Try.checked os 6 .any (Rows.deviceTurnsSpec.pre6 enc Try.prog Try.f6 Rows.deviceTurnsRow.domain false) (Rows.deviceTurnsSpec.post enc Try.prog Try.f6 false true false false) := by
  refine returnsInHanded_of_change (C := Try.checked) own started (by kernel_rfl) Try.func6
    (ChangeSpec.witness6 (enc := enc) (C := Try.checked) false ⟨#[], #[.int .i64 0, .int .i64 0, .int .u8 0, .slice none 0 0], []⟩ 8 (by kernel_rfl) (by kernel_rfl) (by kernel_rfl) (by kernel_rfl)) ?_
  intro W base args ds gs before hval0 hW hcnd _
  have hval : ∀ (j : Nat) t v, Try.f6.params[j]? = some t → args[j]? = some v → Value.okWide Try.prog W .any base t v := hval0
  have hW' := hW
  obtain ⟨p, q, hA0, hV, rfl, hfz, hnd⟩ := hW
  have hA : DataW.TrodAll enc Try.prog W 0 (fun _ => true) true Try.f6.params.toList args.toList ds p := hA0
  rw [Try.params6] at hA hval
  obtain ⟨v0, vs0, d0, ds0, p0, q0, hargs0, rfl, rfl, g0, r0⟩ := trodAll_cons hA
  obtain ⟨v1, vs1, d1, ds1, p1, q1, hargs1, rfl, rfl, g1, r1⟩ := trodAll_cons r0
  obtain ⟨v2, vs2, d2, ds2, p2, q2, hargs2, rfl, rfl, g2, r2⟩ := trodAll_cons r1
  obtain ⟨v3, vs3, d3, ds3, p3, q3, hargs3, rfl, rfl, g3, r3⟩ := trodAll_cons r2
  obtain ⟨hz, rfl, rfl⟩ := trodAll_nil r3
  obtain rfl : args = #[v0, v1, v2, v3] := by cases args; simp_all
  clear hargs0 hargs1 hargs2 hargs3 hz
  obtain ⟨rfl, rfl⟩ := trodVars_none hV
  have h0 := hval 0 3 v0 rfl rfl
  have h1 := hval 1 3 v1 rfl rfl
  have h2 := hval 2 5 v2 rfl rfl
  have h3 := hval 3 30 v3 rfl rfl
  obtain ⟨i, rfl, rfl, rfl, wi0⟩ := open_int Try.underlying3 h0 g0
  have wi : i64s i := wf_i64 wi0
  obtain ⟨j, rfl, rfl, rfl, wj0⟩ := open_int Try.underlying3 h1 g1
  have wj : i64s j := wf_i64 wj0
  obtain ⟨x, rfl, rfl, rfl, wx0⟩ := open_int Try.underlying5 h2 g2
  have wx := wf_u8 wx0
  obtain ⟨s, rfl, hs⟩ := Opens.argSl (Opens.int (kk := .u8) Try.underlying5 (by kernel_rfl) (fun _ h => wf_u8 h)) (by decide) Try.underlying30 (by kernel_rfl) h3 g3
  obtain ⟨y, rfl⟩ : ∃ y : Nat, x = (y : Int) := ⟨x.toNat, by omega⟩
  refine ((DeviceTurns_spec i j wi wj y (by omega) s.xs hs.all s.a s.cap s.ro hs.ro).below (W := W) (ro := s.ro) (hs.mem) (v := .bool true) (fun u L' h => h.1)).mono fun e W' ⟨he, hb⟩ => ?_
  subst he
  exact ⟨_, rfl, law_end laidOut (by kernel_rfl) rfl Try.underlying4 hW' rfl rfl rfl rfl hb⟩
theorem proved : Rows.DeviceTurnsSaid :=
  OpenClaim.holds_of_wide 6 Try.f6 rfl rfl rfl rfl rfl rfl rfl ⟨rfl, rfl, rfl, rfl, rfl⟩ rfl rfl rfl rfl rfl (by kernel_rfl) Try.func6 (by kernel_rfl)
    (of_decide_eq_true (by kernel_rfl)) (by unfold Func.isWrapper; first | (rw [if_pos (by decide +kernel)]; kernel_rfl) | (rw [if_neg (by decide +kernel)]; exact ⟨rfl, rfl⟩))
    (fun os started H enc _ => lifted os started H enc)
#print axioms proved
end Go.Proofs.Ytpimbaphenignaa.DeviceTurns
