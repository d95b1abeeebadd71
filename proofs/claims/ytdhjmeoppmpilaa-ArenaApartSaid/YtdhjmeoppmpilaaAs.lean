/-
  A frame as the document has it, and compared so (for allotmentlaw15; the same as XDi's for allotmentlaw14, without the document's functions).
-/
import Derived.Test.YtdhjmeoppmpilaaPk
import Derived.Test.YtdhjmeoppmpilaaAh
-- short
namespace Go.Proofs.Ytdhjmeoppmpilaa
open Go Go.Sl Go.IntWalk
set_option maxHeartbeats 8000000
set_option maxRecDepth 20000
def Fr.dl (f : Fr) : List Value := [.bool f.used, .bool f.dirty, .bool f.ref, .int .i64 f.pins, .int .i64 f.page, .string (bstr f.b)]
def Fr.dv (f : Fr) : Value := .agg f.dl.toArray
theorem WD.valA {P : Program} {n : Nat} {R : HL} {cx : Cx} {ops : Array Oper} {K : Env → List HL → Prop} {el : List Kd} {fl : List (Nat × Obj)} {Y : List HL} {ρ : Env} {d : Nat} {op : Op} {ty : TypeId} {pos : String} {af : Array Edge} {l : List Oper} {v : Value}
    (h : OpVal P n R cx op ty ρ Y v) (hd : d < n) (hk : WD P n R cx ops el fl l ((d, v) :: ρ) Y K) : WD P n R cx ops (.b true :: el) fl (⟨some d, op, ty, pos, af, none⟩ :: l) ρ Y K := by
  refine WD.act rfl fun a w hf hs => ?_
  exact .inl ⟨v, w, h.go _ a w rfl rfl hf hs, _, _, hf.put hd v, ⟨hs, ⟨Nat.le_refl _, fun _ _ _ => rfl, fun _ hb => .inl hb⟩⟩, hk⟩
def eqDv (f g : Fr) : Bool := (f.used == g.used) && ((f.dirty == g.dirty) && ((f.ref == g.ref) && ((f.pins == g.pins) && ((f.page == g.page) && (decide (f.b = g.b) && true)))))
theorem eqDv_self (f : Fr) : eqDv f f = true := by simp [eqDv]
theorem eqDv_iff (f g : Fr) : eqDv f g = true ↔ f = g := by
  obtain ⟨a1, a2, a3, a4, a5, a6⟩ := f
  obtain ⟨b1, b2, b3, b4, b5, b6⟩ := g
  simp [eqDv]
theorem dv_eq {f g : Fr} (hf : u8ok f.b) (hg : u8ok g.b) : EqD Try.prog 2 78 f.dv g.dv (eqDv f g) :=
  EqD.struct (P := Try.prog) (k := 1) (fs := Try.prog.fieldsOf 78) (by kernel_rfl) (by kernel_rfl)
    (FEqs.of_sig (sig := [(false, 4, 0), (false, 4, 1), (false, 4, 2), (false, 3, 3), (false, 3, 4), (false, 9, 5)]) (by kernel_rfl)
      ⟨_, _, rfl, rfl, FEqT.one ty_4.1 rfl rfl (EqD.bool Try.underlying4), _, _, rfl, rfl, FEqT.one ty_4.1 rfl rfl (EqD.bool Try.underlying4), _, _, rfl, rfl, FEqT.one ty_4.1 rfl rfl (EqD.bool Try.underlying4),
        _, _, rfl, rfl, FEqT.one ty_3.1 rfl rfl (EqD.int Try.underlying3), _, _, rfl, rfl, FEqT.one ty_3.1 rfl rfl (EqD.int Try.underlying3),
        _, _, rfl, rfl, FEqT.one ty_9.1 rfl rfl (by rw [← bstr_eq hf hg]; exact EqD.str Try.underlying9), rfl⟩)
theorem dv_guard : Try.prog.eqGuardType Try.prog.depth 78 = false := by kernel_rfl
theorem neDv {n : Nat} {R : HL} {cx : Cx} {ρ : Env} {L : List HL} {ty t' : Nat} {x y : Operand} {f g : Fr} (hf : u8ok f.b) (hg : u8ok g.b) (hx : ev? ρ x = some f.dv) (hy : ev? ρ y = some g.dv) :
    OpVal Try.prog n R cx (.binOp .neq 78 x y t') ty ρ L (.bool (!eqDv f g)) := OpVal.neD (k := 2) hx hy (dv_eq hf hg) (by decide) dv_guard
theorem eqDvO {n : Nat} {R : HL} {cx : Cx} {ρ : Env} {L : List HL} {ty t' : Nat} {x y : Operand} {f g : Fr} (hf : u8ok f.b) (hg : u8ok g.b) (hx : ev? ρ x = some f.dv) (hy : ev? ρ y = some g.dv) :
    OpVal Try.prog n R cx (.binOp .eql 78 x y t') ty ρ L (.bool (eqDv f g)) := OpVal.eqD (k := 2) hx hy (dv_eq hf hg) (by decide) dv_guard
theorem zero_u8 : u8ok Fr.zero.b := fun x hx => by
  have := List.eq_of_mem_replicate (show x ∈ List.replicate 32 0 from hx)
  omega
theorem OpVal.whole {P : Program} {n : Nat} {R : HL} {cx : Cx} {ρ : Env} {L : List HL} {T : Tab} (hT : TabOk P T) {t e ty : TypeId} {x : Operand} {b off k m : Nat} {ag : Bool} (hx : ev? ρ x = some (.pointer (some ⟨b, off, none⟩))) (ht : look? T.ars t = some (k, e)) (hz : look? T.tys e = some (ag, m)) :
    OpVal P n R cx (.slice t x none none none) ty ρ L (.slice (some ⟨b, off, none⟩) k k) := by
  refine ⟨fun oo a w ho hty hf hs => ?_⟩
  have hu := hT.ars _ (look?_mem ht)
  have hz' := (hT.tys _ (look?_mem hz)).2
  unfold execOp; rw [ho]
  simp [Instr.sliceAt, Instr.sliceBounds, underlying, hu, hf.ev hx, hz' w, Addr.add_none', Instr.sureAddr]
theorem own_roT (b : Nat) (bs : List Int) (e : Nat) : RoSl 1 (u8s bs) (some ⟨b, 0, none⟩) bs.length [(b, .cells (u8s bs).toArray e (0, 0))] :=
  ⟨by rw [u8s_len, Nat.mul_one], .inr ⟨b, 0, _, _, _, rfl, rfl, by rw [u8s_len]; omega, by rw [List.drop_zero]; exact List.take_of_length_le (by rw [u8s_len]; omega)⟩⟩
theorem FBytes_spec (f : Fr) (hf : f.Ok) (b : Nat) : Ctr Try.prog 79 [.pointer (some ⟨b, 0, none⟩)] [] [(b, .cells f.l.toArray 51 (0, 0))]
    (fun v L' => ∃ c, v = .slice (some ⟨c, 0, none⟩) 32 32 ∧ L' = [[(c, .cells (u8s f.b).toArray 49 (0, 0))]]) := by
  have h32 : f.b.length = 32 := hf
  have hs : seg? f.l 5 32 = some (u8s f.b) := by rw [u8s_map]; exact seg_bytes hf
  have hl32 : (u8s f.b).length = 32 := by rw [u8s_len, h32]
  refine Ctr.enter (n := 9) [.tmp 2] [(0, _)] Try.func79 rfl rfl rfl (lb rfl) Try.call79 ⟨rfl, trivial⟩ ?_
  intro cx fin fin0
  refine W.step tab_ok rfl rfl ?_
  refine W.val (OpVal.loadN ty_49.1 ty_49.2 rfl (at_ro 0 rfl) hs) (by exact lb rfl) (W.step tab_ok rfl rfl ?_)
  refine W.new tab_ok rfl rfl (by exact lb rfl) ?_
  intro c
  refine W.step tab_ok rfl rfl ?_
  refine W.store tab_ok rfl Upd.here rfl rfl rfl hl32 (u8s_one _) (splice_all (by rw [hl32]; rfl)) (W.step tab_ok rfl rfl ?_)
  refine W.val (OpVal.whole tab_ok rfl rfl rfl) (by exact lb rfl) (W.step tab_ok rfl rfl ?_)
  refine W.ret (fin _ _ (FinOk.first 1 (.tmp rfl .nil) rfl ?_))
  exact ⟨c, rfl, rfl⟩
theorem as_spec (f : Fr) (hf : f.Ok) : Ctr Try.prog 51 [f.v] [] [] (fun v L' => v = f.dv ∧ L' = []) := by
  have h32 : f.b.length = 32 := hf
  refine Ctr.enter (n := 20) [.cell 2 78] [(0, _)] Try.func51 rfl rfl rfl (lb rfl) Try.call51 ⟨rfl, trivial⟩ ?_
  intro cx fin fin0
  refine W.step tab_ok rfl rfl ?_
  refine W.box (zs := f.l) rfl rfl (by exact lb rfl) ?_
  intro b1
  refine W.step tab_ok rfl rfl ?_
  refine W.new tab_ok rfl rfl (by exact lb rfl) ?_
  intro b2
  refine W.step tab_ok rfl rfl ?_
  have l0 : f.l[0 + 0 + 0]? = some (.bool f.used) := rfl
  have l1 : f.l[0 + 0 + 1]? = some (.bool f.dirty) := rfl
  have l2 : f.l[0 + 0 + 2]? = some (.bool f.ref) := rfl
  have l3 : f.l[0 + 0 + 3]? = some (.int .i64 f.pins) := rfl
  have l4 : f.l[0 + 4]? = some (.int .i64 f.page) := rfl
  have hor : ∀ c, RoSl 1 (u8s f.b) (some ⟨c, 0, none⟩) 32 [(c, .cells (u8s f.b).toArray 49 (0, 0))] := fun c => by
    have := own_roT c f.b 49
    rw [h32] at this
    exact this
  refine W.drawH tab_ok 18 [.b false, .b false, .b false, .b false, .b false, .b false, .b false, .b false, .b false, .b false, .b false, .b false, .b false, .b false, .b true, .b true, .b false, .b true] [0] follows (by decide +kernel) (by decide +kernel) rfl (by decide) rfl ?_
  intro _
  refine WD.step tab_ok rfl rfl ?_
  repeat (first | (refine WD.isLoad ?_; refine WD.val (OpVal.load tab_ok rfl (by repeat (first | exact rh | apply rt)) (by rfl)) (by exact lb rfl) ?_; refine WD.step tab_ok rfl rfl ?_) | (refine WD.isStore ?_; refine WD.store tab_ok rfl (by repeat (first | exact Upd.here | apply Upd.there)) rfl rfl rfl rfl rfl (by rfl) ?_; refine WD.step tab_ok rfl rfl ?_) | (refine WD.isNew ?_; refine WD.new_ (NewOf.new tab_ok rfl rfl) (by exact lb rfl) ?_; intro _; refine WD.step tab_ok rfl rfl ?_) | (refine WD.isBox ?_; refine WD.new_ (NewOf.box rfl rfl) (by exact lb rfl) ?_; intro _; refine WD.step tab_ok rfl rfl ?_))
  refine WD.call rfl rfl rfl rfl (FBytes_spec f hf b1) (by repeat (first | exact Sel.nil | (apply Sel.cons; (repeat (first | exact Pick.here | apply Pick.there))))) (by repeat (first | exact RoIn.nil | exact RoIn.same | refine RoIn.cons (by repeat (first | exact oh | exact rh | apply ot | apply rt)) ?_ | refine RoIn.append ?_ ?_ | exact RoIn.own 0 rfl | exact RoIn.own 1 rfl | exact RoIn.own 2 rfl | exact RoIn.own 3 rfl | exact RoIn.own 4 rfl | exact RoIn.own 5 rfl | exact RoIn.own 6 rfl | exact RoIn.own 7 rfl | exact RoIn.own 8 rfl | exact RoIn.own 9 rfl | exact RoIn.own 10 rfl | exact RoIn.own 11 rfl | (intro p hp; simp [hp]; done))) (by exact lb rfl) ?_
  rintro _ _ ⟨c, rfl, rfl⟩
  refine WD.step tab_ok rfl rfl ?_
  refine WD.valA (OpVal.bytesStr (bs := f.b) tab_ok rfl rfl rfl rfl (hor c) (fun p hp => by simp at hp; subst hp; exact at_own 0 rfl)) (by exact lb rfl) (WD.step tab_ok rfl rfl ?_)
  refine WD.val (OpVal.build (ps := [_, _, _, _, _, _]) tab_ok rfl rfl rfl rfl (by repeat (first | exact trivial | refine ⟨⟨_, _, _, rfl, rfl, rfl⟩, ?_⟩)) rfl) (by exact lb rfl) (WD.step tab_ok rfl rfl ?_)
  repeat (first | (refine WD.isLoad ?_; refine WD.val (OpVal.load tab_ok rfl (by repeat (first | exact rh | apply rt)) (by rfl)) (by exact lb rfl) ?_; refine WD.step tab_ok rfl rfl ?_) | (refine WD.isStore ?_; refine WD.store tab_ok rfl (by repeat (first | exact Upd.here | apply Upd.there)) rfl rfl rfl rfl rfl (by rfl) ?_; refine WD.step tab_ok rfl rfl ?_) | (refine WD.isNew ?_; refine WD.new_ (NewOf.new tab_ok rfl rfl) (by exact lb rfl) ?_; intro _; refine WD.step tab_ok rfl rfl ?_) | (refine WD.isBox ?_; refine WD.new_ (NewOf.box rfl rfl) (by exact lb rfl) ?_; intro _; refine WD.step tab_ok rfl rfl ?_))
  refine WD.nil (W.dropNil (W.step tab_ok rfl rfl ?_))
  first | refine W.ret (fin _ _ (FinOk.first 0 (ResOk.cell tab_ok rfl (at_own 0 rfl) rfl .nil) rfl ?_)) | refine W.ret (fin _ _ (FinOk.first 0 (ResOk.cell tab_ok rfl (at_own 1 rfl) rfl .nil) rfl ?_)) | refine W.ret (fin _ _ (FinOk.first 0 (ResOk.cell tab_ok rfl (at_own 2 rfl) rfl .nil) rfl ?_)) | refine W.ret (fin _ _ (FinOk.first 0 (ResOk.cell tab_ok rfl (at_own 3 rfl) rfl .nil) rfl ?_)) | refine W.ret (fin _ _ (FinOk.first 0 (ResOk.cell tab_ok rfl (at_own 4 rfl) rfl .nil) rfl ?_)) | refine W.ret (fin _ _ (FinOk.first 0 (ResOk.cell tab_ok rfl (at_own 5 rfl) rfl .nil) rfl ?_)) | refine W.ret (fin _ _ (FinOk.first 0 (ResOk.cell tab_ok rfl (at_own 6 rfl) rfl .nil) rfl ?_)) | refine W.ret (fin _ _ (FinOk.first 0 (ResOk.cell tab_ok rfl (at_own 7 rfl) rfl .nil) rfl ?_)) | refine W.ret (fin _ _ (FinOk.first 0 (ResOk.cell tab_ok rfl (at_own 8 rfl) rfl .nil) rfl ?_)) | refine W.ret (fin _ _ (FinOk.first 0 (ResOk.cell tab_ok rfl (at_own 9 rfl) rfl .nil) rfl ?_)) | refine W.ret (fin _ _ (FinOk.first 0 (ResOk.cell tab_ok rfl (at_own 10 rfl) rfl .nil) rfl ?_)) | refine W.ret (fin _ _ (FinOk.first 0 (ResOk.cell tab_ok rfl (at_own 11 rfl) rfl .nil) rfl ?_))
  exact ⟨rfl, rfl⟩
end Go.Proofs.Ytdhjmeoppmpilaa
