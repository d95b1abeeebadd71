/-
  Frames as the document has them, compared; a frame's bytes; how many frames.
-/
import Derived.Test.YtgipjpiiomgjjaaDe
-- short
namespace Go.Proofs.Ytgipjpiiomgjjaa
open Go Go.Sl Go.IntWalk
set_option maxHeartbeats 8000000
set_option maxRecDepth 20000
def eqDv (f g : Fr) : Bool := (f.used == g.used) && ((f.dirty == g.dirty) && ((f.ref == g.ref) && ((f.pins == g.pins) && ((f.page == g.page) && (decide (f.b = g.b) && true)))))
theorem eqDv_self (f : Fr) : eqDv f f = true := by simp [eqDv]
theorem eqDv_iff (f g : Fr) : eqDv f g = true ↔ f = g := by
  obtain ⟨a1, a2, a3, a4, a5, a6⟩ := f
  obtain ⟨b1, b2, b3, b4, b5, b6⟩ := g
  simp [eqDv]
theorem dv_eq {f g : Fr} (hf : u8ok f.b) (hg : u8ok g.b) : EqD Try.prog 2 43 f.dv g.dv (eqDv f g) :=
  EqD.struct (P := Try.prog) (k := 1) (fs := Try.prog.fieldsOf 43) (by kernel_rfl) (by kernel_rfl)
    (FEqs.of_sig (sig := [(false, 4, 0), (false, 4, 1), (false, 4, 2), (false, 3, 3), (false, 3, 4), (false, 9, 5)]) (by kernel_rfl)
      ⟨_, _, rfl, rfl, FEqT.one ty_4.1 rfl rfl (EqD.bool Try.underlying4), _, _, rfl, rfl, FEqT.one ty_4.1 rfl rfl (EqD.bool Try.underlying4), _, _, rfl, rfl, FEqT.one ty_4.1 rfl rfl (EqD.bool Try.underlying4),
        _, _, rfl, rfl, FEqT.one ty_3.1 rfl rfl (EqD.int Try.underlying3), _, _, rfl, rfl, FEqT.one ty_3.1 rfl rfl (EqD.int Try.underlying3),
        _, _, rfl, rfl, FEqT.one ty_9.1 rfl rfl (by rw [← bstr_eq hf hg]; exact EqD.str Try.underlying9), rfl⟩)
theorem dv_guard : Try.prog.eqGuardType Try.prog.depth 43 = false := by kernel_rfl
theorem neDv {n : Nat} {R : HL} {cx : Cx} {ρ : Env} {L : List HL} {ty t' : Nat} {x y : Operand} {f g : Fr} (hf : u8ok f.b) (hg : u8ok g.b) (hx : ev? ρ x = some f.dv) (hy : ev? ρ y = some g.dv) :
    OpVal Try.prog n R cx (.binOp .neq 43 x y t') ty ρ L (.bool (!eqDv f g)) := OpVal.neD (k := 2) hx hy (dv_eq hf hg) (by decide) dv_guard
theorem eqDvO {n : Nat} {R : HL} {cx : Cx} {ρ : Env} {L : List HL} {ty t' : Nat} {x y : Operand} {f g : Fr} (hf : u8ok f.b) (hg : u8ok g.b) (hx : ev? ρ x = some f.dv) (hy : ev? ρ y = some g.dv) :
    OpVal Try.prog n R cx (.binOp .eql 43 x y t') ty ρ L (.bool (eqDv f g)) := OpVal.eqD (k := 2) hx hy (dv_eq hf hg) (by decide) dv_guard
theorem zero_u8 : u8ok Fr.zero.b := fun x hx => by
  have := List.eq_of_mem_replicate (show x ∈ List.replicate 32 0 from hx)
  omega
theorem Len_spec (p : Pt) (b : Nat) (H : HL) (hp : PtAt p b H) : Ctr Try.prog 40 [.pointer (some ⟨b, 0, none⟩)] [] H (fun v L' => v = .int .i64 (p.fs.length : Int) ∧ L' = []) := by
  obtain ⟨bf, bm, es, clock, rfl, hm⟩ := hp
  refine Ctr.enter (n := 8) [.tmp 2] [(0, _)] Try.func40 rfl rfl rfl (lb rfl) Try.call40 ⟨rfl, trivial⟩ ?_
  intro cx fin fin0
  refine aG ?_
  repeat (first | refine gw ?_ | refine gN fun _ => ?_ | refine gB fun _ => ?_ | fail)
  refine W.ret (fin _ _ (FinOk.mk' ([]) (.tmp rfl .nil) (by repeat (first | exact Sel.nil | (apply Sel.cons; (repeat (first | exact Pick.here | apply Pick.there))))) rfl ?_))
  exact ⟨rfl, rfl⟩
theorem OpVal.whole {P : Program} {n : Nat} {R : HL} {cx : Cx} {ρ : Env} {L : List HL} {T : Tab} (hT : TabOk P T) {t e ty : TypeId} {x : Operand} {b off k m : Nat} {ag : Bool} (hx : ev? ρ x = some (.pointer (some ⟨b, off, none⟩))) (ht : look? T.ars t = some (k, e)) (hz : look? T.tys e = some (ag, m)) :
    OpVal P n R cx (.slice t x none none none) ty ρ L (.slice (some ⟨b, off, none⟩) k k) := by
  refine ⟨fun oo a w ho hty hf hs => ?_⟩
  have hu := hT.ars _ (look?_mem ht)
  have hz' := (hT.tys _ (look?_mem hz)).2
  unfold execOp; rw [ho]
  simp [Instr.sliceAt, Instr.sliceBounds, underlying, hu, hf.ev hx, hz' w, Addr.add_none', Instr.sureAddr]
theorem own_roT (b : Nat) (bs : List Int) (e : Nat) : RoSl 1 (u8s bs) (some ⟨b, 0, none⟩) bs.length [(b, .cells (u8s bs).toArray e (0, 0))] :=
  ⟨by rw [u8s_len, Nat.mul_one], .inr ⟨b, 0, _, _, _, rfl, rfl, by rw [u8s_len]; omega, by rw [List.drop_zero]; exact List.take_of_length_le (by rw [u8s_len]; omega)⟩⟩
theorem FBytes_spec (f : Fr) (hf : f.Ok) (b : Nat) : Ctr Try.prog 23 [.pointer (some ⟨b, 0, none⟩)] [] [(b, .cells f.l.toArray 58 (0, 0))]
    (fun v L' => ∃ c, v = .slice (some ⟨c, 0, none⟩) 32 32 ∧ L' = [[(c, .cells (u8s f.b).toArray 56 (0, 0))]]) := by
  have h32 : f.b.length = 32 := hf
  have hs : seg? f.l 5 32 = some (u8s f.b) := by rw [u8s_map]; exact seg_bytes hf
  have hl32 : (u8s f.b).length = 32 := by rw [u8s_len, h32]
  refine Ctr.enter (n := 9) [.tmp 2] [(0, _)] Try.func23 rfl rfl rfl (lb rfl) Try.call23 ⟨rfl, trivial⟩ ?_
  intro cx fin fin0
  refine aG ?_
  refine aV (OpVal.loadN ty_56.1 ty_56.2 rfl (at_ro 0 rfl) hs) ?_
  refine W.new tab_ok rfl rfl (by exact lb rfl) ?_
  intro c
  refine aG ?_
  refine W.store tab_ok rfl Upd.here rfl rfl rfl hl32 (u8s_one _) (splice_all (by rw [hl32]; rfl)) (W.step tab_ok rfl rfl ?_)
  refine aV (OpVal.whole tab_ok rfl rfl rfl) ?_
  refine W.ret (fin _ _ (FinOk.first 1 (.tmp rfl .nil) rfl ?_))
  exact ⟨c, rfl, rfl⟩
end Go.Proofs.Ytgipjpiiomgjjaa
