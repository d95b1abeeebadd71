/-
  The law's machine and the document's, side by side: begin, same.
-/
import Derived.Test.YtgipjpiiomgjjaaMj
import Derived.Test.YtgipjpiiomgjjaaPk
namespace Go.Proofs.Ytgipjpiiomgjjaa
open Go Go.Sl Go.IntWalk
set_option maxHeartbeats 8000000
set_option maxRecDepth 20000
theorem c6_self (c : C6) : ∀ f ∈ (Try.prog.fieldsOf 48).toList, SelfEq Try.prog c.l f := by
  have h : (Try.prog.fieldsOf 48).toList.map (fun f => (f.type, f.offset)) = [(46, 0), (46, 1), (46, 2), (46, 3), (46, 4), (46, 5)] := by kernel_rfl
  intro f hf
  have := List.mem_map_of_mem (f := fun f : Field => (f.type, f.offset)) hf
  rw [h] at this
  simp only [List.mem_cons, Prod.mk.injEq, List.not_mem_nil, or_false] at this
  have hi : Try.prog.underlying 46 = some (.int .u64) := Try.underlying46
  have ha : IsAgg Try.prog 46 false := ty_46.1
  rcases this with ⟨h1, h2⟩ | ⟨h1, h2⟩ | ⟨h1, h2⟩ | ⟨h1, h2⟩ | ⟨h1, h2⟩ | ⟨h1, h2⟩
  all_goals exact SelfEq.int (by rw [h1]; exact ha) (by rw [h1]; exact hi) (by rw [h2]; rfl)
theorem und_c6 : Try.prog.underlying 48 = some (.struct (Try.prog.fieldsOf 48)) := by kernel_rfl
theorem held_c6 : Try.prog.stoodInHeld 48 = false := by kernel_rfl
theorem guard_c6 : Try.prog.eqGuardType Try.prog.depth 48 = false := by kernel_rfl
theorem eqC {n : Nat} {R : HL} {cx : Cx} {ρ : Env} {L : List HL} {ty t' : TypeId} {x y : Operand} (c : C6) (hx : ev? ρ x = some c.v) (hy : ev? ρ y = some c.v) :
    OpVal Try.prog n R cx (.binOp .eql 48 x y t') ty ρ L (.bool true) := OpVal.eqSelf (l := c.l) hx hy und_c6 held_c6 guard_c6 (c6_self c)
/-- The machine, its partition, the document's machine. -/
def WAt (m : Mc) (p : Pt) (b bm bp : Nat) (Hw Hm Hp : HL) : Prop := ∃ a c r at_ ct rt ag cg rg D,
  Hw = [(b, Obj.cells (List.toArray [.pointer (some ⟨bm, 0, none⟩), .pointer (some ⟨bp, 0, none⟩), .slice a p.fs.length c, .int .i64 p.hand, .int .i64 m.op, .int .i64 m.page, .slice at_ m.todo.length ct, .int .i64 m.to, .slice ag m.got.length cg]) 40 (0, 0))] ++ D ∧
  RoSl 6 (dflat p.fs) a p.fs.length r ∧ RoSl 3 (ios m.todo) at_ m.todo.length rt ∧ RoSl 1 (u8s m.got) ag m.got.length rg ∧ m.todo.length ≤ ct ∧ (∀ q ∈ r, q ∈ D) ∧ (∀ q ∈ rt, q ∈ D) ∧ (∀ q ∈ rg, q ∈ D) ∧ MAt m bm bp Hm ∧ PtAt p bp Hp
theorem WBegin_spec (n : Nat) (h1 : 1 ≤ n) (h64 : n ≤ 64) : Ctr Try.prog 9 [.int .i64 (n : Int)] [] [] (fun v L' => ∃ b bm bp Hw Hm Hp, v = .pointer (some ⟨b, 0, none⟩) ∧ L' = [Hw, Hm, Hp] ∧ WAt Mc.idle (Pt.new n) b bm bp Hw Hm Hp) := by
  have hN : Ctr Try.prog 24 [.int .i64 (n : Int)] [] [] (fun v L' => ∃ b H, v = .tuple #[.pointer (some ⟨b, 0, none⟩), .int .i64 0] ∧ L' = [H] ∧ PtAt (Pt.new n) b H) := by
    refine (New_spec (n : Int)).post ?_
    rintro v L' (⟨hbad, -, -⟩ | ⟨-, bp, Hp, rfl, rfl, hp⟩)
    · omega
    · exact ⟨bp, Hp, rfl, rfl, by rwa [Int.toNat_natCast] at hp⟩
  have hR := RNew_spec n h64
  have hM := MNew_spec
  refine Ctr.enter (n := 28) [.tmp 2] [(0, _)] Try.func9 rfl rfl rfl (lb rfl) Try.call9 ⟨rfl, trivial⟩ ?_
  intro cx fin fin0
  refine aG ?_
  repeat (first | refine gx ?_ | refine gN fun _ => ?_ | refine gB fun _ => ?_ | fail)
  refine aC (o := hN) (h := ?_)
  rintro _ _ ⟨bp, Hp, rfl, rfl, hp⟩
  refine aG ?_
  repeat (first | refine gx ?_ | refine gN fun _ => ?_ | refine gB fun _ => ?_ | fail)
  refine aC (o := hM bp) (h := ?_)
  rintro _ _ ⟨bm, Hm, rfl, rfl, hm⟩
  refine aG ?_
  repeat (first | refine gx ?_ | refine gN fun _ => ?_ | refine gB fun _ => ?_ | fail)
  refine aC (o := hR) (h := ?_)
  rintro _ _ ⟨D, rfl, a, c, r, rfl, hro, hsub⟩
  refine aG ?_
  refine aBu (ps := [_]) ?_
  refine aBu (ps := [_, _, _]) ?_
  repeat (first | refine gx ?_ | refine gN fun _ => ?_ | refine gB fun _ => ?_ | fail)
  refine W.groupV [0, 0] rfl ?_
  refine W.order [0, 0, 0] rfl ?_
  refine W.ret (fin _ _ (FinOk.first 3 (.tmp rfl .nil) rfl ?_))
  exact ⟨_, _, _, _, _, _, rfl, rfl, a, c, r, none, 0, [], none, 0, [], _, rfl, hro, ⟨rfl, .inl ⟨rfl, rfl⟩⟩, ⟨rfl, .inl ⟨rfl, rfl⟩⟩, Nat.le_refl _, hsub, (fun _ h => by cases h), (fun _ h => by cases h), hm, hp⟩
theorem WSame_spec (r : Re) (a : Option Addr) (n c : Nat) (ro : HL) (hro : RoSl 1 (u8s r.data) a n ro) : Ctr Try.prog 29 [r.v a n c, r.d] [] ro (fun v L' => v = .bool true ∧ L' = []) := by
  obtain ⟨rd, re, rh, rdat, ⟨k1, k2, k3, k4, k5, k6⟩⟩ := r
  simp only at hro
  refine Ctr.enter (n := 58) [.tmp 4] [(0, _), (1, _)] Try.func29 rfl rfl rfl (lb rfl) Try.call29 ⟨rfl, rfl, trivial⟩ ?_
  intro cx fin fin0
  refine aG ?_
  repeat (first | refine gx ?_ | refine gN fun _ => ?_ | refine gB fun _ => ?_ | fail)
  refine aV (OpVal.bytesStr tab_ok rfl rfl rfl rfl hro (fun q hq => .inr hq)) ?_
  repeat (first | refine gx ?_ | refine gN fun _ => ?_ | refine gB fun _ => ?_ | fail)
  refine aV (OpVal.eqStr rfl rfl) ?_
  repeat (first | refine gx ?_ | refine gN fun _ => ?_ | refine gB fun _ => ?_ | fail)
  refine aBu (ps := []) ?_
  repeat (first | refine gx ?_ | refine gN fun _ => ?_ | refine gB fun _ => ?_ | fail)
  refine aV (eqC ⟨0, 0, 0, 0, 0, 0⟩ rfl rfl) ?_
  repeat (first | refine gx ?_ | refine gN fun _ => ?_ | refine gB fun _ => ?_ | fail)
  refine aV (eqC ⟨k1, k2, k3, k4, k5, k6⟩ rfl rfl) ?_
  repeat (first | refine gx ?_ | refine gN fun _ => ?_ | refine gB fun _ => ?_ | fail)
  refine W.ret (fin _ _ (FinOk.mk' ([]) (.tmp rfl .nil) (by repeat (first | exact Sel.nil | (apply Sel.cons; (repeat (first | exact Pick.here | apply Pick.there))))) rfl ?_))
  exact ⟨rfl, rfl⟩
end Go.Proofs.Ytgipjpiiomgjjaa
