/-
  The row of ArenaApart: the contract, read as the statement says.
-/
import Derived.Test.YtdhjmeoppmpilaaAi
import Derived.Test.YtdhjmeoppmpilaaOp
namespace Go.Proofs.Ytdhjmeoppmpilaa.ArenaApart
open Go Go.Sl Go.RowKit Go.ChangeShapes Go.WideShapes Go.ChangeAt
theorem own : ownKnob Try.prog.godebug = none := by kernel_rfl
theorem laidOut : laidOutB Try.prog = true := by kernel_rfl
set_option maxRecDepth 100000 in
theorem lifted (os : Os) (started : os.Started) (H : Type) (enc : TypeId × Value → H) :
    ReturnsInHanded {} Try.checked os 11 .any (Rows.arenaApartSpec.pre6 enc Try.prog Try.f11 Rows.arenaApartRow.domain false) (Rows.arenaApartSpec.post enc Try.prog Try.f11 false true false false) := by
  refine returnsInHanded_of_change (C := Try.checked) own started (by kernel_rfl) Try.func11
    (ChangeSpec.witness6 (enc := enc) (C := Try.checked) false ⟨#[], #[.slice none 0 0, .slice none 0 0, .int .i64 0, .int .i64 0, .bool false], []⟩ 8 (by kernel_rfl) (by kernel_rfl) (by kernel_rfl) (by kernel_rfl)) ?_
  intro W base args ds gs before hval0 hW hcnd _
  have hval : ∀ (j : Nat) t v, Try.f11.params[j]? = some t → args[j]? = some v → Value.okWide Try.prog W .any base t v := hval0
  have hW' := hW
  obtain ⟨p, q, hA0, hV, rfl, hfz, hnd⟩ := hW
  have hA : DataW.TrodAll enc Try.prog W 0 (fun _ => true) true Try.f11.params.toList args.toList ds p := hA0
  rw [Try.params11] at hA hval
  obtain ⟨v0, vs0, d0, ds0, p0, q0, hargs0, rfl, rfl, g0, r0⟩ := trodAll_cons hA
  obtain ⟨v1, vs1, d1, ds1, p1, q1, hargs1, rfl, rfl, g1, r1⟩ := trodAll_cons r0
  obtain ⟨v2, vs2, d2, ds2, p2, q2, hargs2, rfl, rfl, g2, r2⟩ := trodAll_cons r1
  obtain ⟨v3, vs3, d3, ds3, p3, q3, hargs3, rfl, rfl, g3, r3⟩ := trodAll_cons r2
  obtain ⟨v4, vs4, d4, ds4, p4, q4, hargs4, rfl, rfl, g4, r4⟩ := trodAll_cons r3
  obtain ⟨hz, rfl, rfl⟩ := trodAll_nil r4
  obtain rfl : args = #[v0, v1, v2, v3, v4] := by cases args; simp_all
  clear hargs0 hargs1 hargs2 hargs3 hargs4 hz
  obtain ⟨rfl, rfl⟩ := trodVars_none hV
  have h0 := hval 0 23 v0 rfl rfl
  have h1 := hval 1 54 v1 rfl rfl
  have h2 := hval 2 3 v2 rfl rfl
  have h3 := hval 3 3 v3 rfl rfl
  have h4 := hval 4 4 v4 rfl rfl
  obtain ⟨s, rfl, hs⟩ := Opens.argSl (Opens.int (kk := .i64) Try.underlying3 (by kernel_rfl) (fun _ h => wf_i64 h)) (by decide) Try.underlying23 (by kernel_rfl) h0 g0
  obtain ⟨z, rfl, hz⟩ := Opens.argSl (Opens.int (kk := .u8) Try.underlying5 (by kernel_rfl) (fun _ h => wf_u8 h)) (by decide) Try.underlying54 (by kernel_rfl) h1 g1
  obtain ⟨y, rfl, rfl, rfl, wy0⟩ := open_int Try.underlying3 h2 g2
  have wy : i64s y := wf_i64 wy0
  obtain ⟨u, rfl, rfl, rfl, wu0⟩ := open_int Try.underlying3 h3 g3
  have wu : i64s u := wf_i64 wu0
  obtain ⟨c, rfl, rfl, rfl⟩ := open_bool Try.underlying4 h4 g4
  refine ((ArenaApart_spec s.xs hs.all s.a s.cap s.ro hs.ro z.xs hz.all z.a z.cap z.ro hz.ro y u wy wu c).below (W := W) (ro := s.ro ++ z.ro) (fun p hp => by simp only [List.mem_append] at hp; rcases hp with h | h <;> first | exact hs.mem p h | exact hz.mem p h) (v := .bool true) (fun u L' h => h.1)).mono fun e W' ⟨he, hb⟩ => ?_
  subst he
  exact ⟨_, rfl, law_end laidOut (by kernel_rfl) rfl Try.underlying4 hW' rfl rfl rfl rfl hb⟩
theorem proved : Rows.ArenaApartSaid :=
  OpenClaim.holds_of_wide 11 Try.f11 rfl rfl rfl rfl rfl rfl rfl ⟨rfl, rfl, rfl, rfl, rfl⟩ rfl rfl rfl rfl rfl (by kernel_rfl) Try.func11 (by kernel_rfl)
    (of_decide_eq_true (by kernel_rfl)) (by unfold Func.isWrapper; first | (rw [if_pos (by decide +kernel)]; kernel_rfl) | (rw [if_neg (by decide +kernel)]; exact ⟨rfl, rfl⟩))
    (fun os started H enc _ => lifted os started H enc)
#print axioms proved
end Go.Proofs.Ytdhjmeoppmpilaa.ArenaApart
