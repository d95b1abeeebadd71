/-
  Frames compared; Empty of a partition.
-/
import Derived.Test.YtgipjpiiomgjjaaPa
import Derived.Test.YtgipjpiiomgjjaaEd
namespace Go.Proofs.Ytgipjpiiomgjjaa
open Go Go.Sl Go.IntWalk
set_option maxHeartbeats 2000000
set_option maxRecDepth 20000
def eqFl (f g : Fr) : Bool := (f.used == g.used) && ((f.dirty == g.dirty) && ((f.ref == g.ref) && ((f.pins == g.pins) && true)))
theorem flags_eq (f g : Fr) : EqD Try.prog 2 55 (.agg #[.bool f.used, .bool f.dirty, .bool f.ref, .int .i64 f.pins]) (.agg #[.bool g.used, .bool g.dirty, .bool g.ref, .int .i64 g.pins]) (eqFl f g) :=
  EqD.struct (P := Try.prog) (k := 1) (fs := Try.prog.fieldsOf 55) (by kernel_rfl) (by kernel_rfl)
    (FEqs.of_sig (sig := [(false, 4, 0), (false, 4, 1), (false, 4, 2), (false, 3, 3)]) (by kernel_rfl)
      ⟨_, _, rfl, rfl, FEqT.one ty_4.1 rfl rfl (EqD.bool Try.underlying4), _, _, rfl, rfl, FEqT.one ty_4.1 rfl rfl (EqD.bool Try.underlying4), _, _, rfl, rfl, FEqT.one ty_4.1 rfl rfl (EqD.bool Try.underlying4),
        _, _, rfl, rfl, FEqT.one ty_3.1 rfl rfl (EqD.int Try.underlying3), rfl⟩)
def eqFr (f g : Fr) : Bool := eqFl f g && ((f.page == g.page) && (decide (f.b = g.b) && true))
theorem eqFr_iff (f g : Fr) : eqFr f g = true ↔ f = g := by
  obtain ⟨a1, a2, a3, a4, a5, a6⟩ := f
  obtain ⟨b1, b2, b3, b4, b5, b6⟩ := g
  simp [eqFr, eqFl, and_assoc]
theorem seg_bytes {f : Fr} (h : f.Ok) : seg? f.l 5 32 = some (f.b.map (.int .u8)) := by
  have h1 : f.b.length = 32 := h
  have h2 := seg?_of f.l 5 32 (by rw [Fr.l_len h]; decide)
  rw [h2]
  simp [Fr.l, List.take_of_length_le, h1]
theorem frame_eq {f g : Fr} (hf : f.Ok) (hg : g.Ok) : EqD Try.prog 3 58 f.v g.v (eqFr f g) :=
  EqD.struct (P := Try.prog) (k := 2) (fs := Try.prog.fieldsOf 58) (by kernel_rfl) (by kernel_rfl)
    (FEqs.of_sig (sig := [(false, 55, 0), (false, 3, 4), (false, 56, 5)]) (by kernel_rfl)
      ⟨_, _, rfl, rfl, FEqT.agg ty_55.1 ty_55.2 rfl rfl (flags_eq f g), _, _, rfl, rfl, FEqT.one ty_3.1 rfl rfl ((EqD.int Try.underlying3).more (by decide)),
        _, _, rfl, rfl, FEqT.agg ty_56.1 ty_56.2 (seg_bytes hf) (seg_bytes hg) (EqD.arr Try.underlying56 (i := Try.t5) rfl (by kernel_rfl) ty_5.1 Try.underlying5 hf hg), rfl⟩)
theorem frame_guard : Try.prog.eqGuardType Try.prog.depth 58 = false := by kernel_rfl
def Pt.empty (p : Pt) : Bool := p.fs.all fun f => eqFr f Fr.zero
theorem load_frame {P : Program} {n : Nat} {R : HL} {cx : Cx} {ρ : Env} {L : List HL} {x : Operand} {ty bf i : Nat} {fs : List Fr} {T : Tab} (hT : TabOk P T) (hty : look? T.tys 58 = some (true, 37)) (hok : ∀ f ∈ fs, f.Ok) (hi : i < fs.length)
    (hx : ev? ρ x = some (.pointer (some ⟨bf, 0 + i * 37, none⟩))) (hb : At R L bf (.cells (flat fs).toArray 58 (0, 0))) : OpVal P n R cx (.load 58 x) ty ρ L fs[i].v :=
  OpVal.load hT hx hb (by unfold ldv?; rw [hty]; simp only; rw [seg_frame hok hi]; rfl)
theorem store_all {l : List Value} {f : Fr} (hf : f.Ok) (h : l.length = 37) : splice? l 0 f.l = some f.l := splice_all (by rw [Fr.l_len hf, h])
theorem zero_l : Fr.zero.l = [.bool false, .bool false, .bool false, .int .i64 0, .int .i64 0, .int .u8 0, .int .u8 0, .int .u8 0, .int .u8 0, .int .u8 0, .int .u8 0, .int .u8 0, .int .u8 0, .int .u8 0, .int .u8 0, .int .u8 0, .int .u8 0, .int .u8 0, .int .u8 0, .int .u8 0, .int .u8 0, .int .u8 0, .int .u8 0, .int .u8 0, .int .u8 0, .int .u8 0, .int .u8 0, .int .u8 0, .int .u8 0, .int .u8 0, .int .u8 0, .int .u8 0, .int .u8 0, .int .u8 0, .int .u8 0, .int .u8 0, .int .u8 0] := rfl
theorem build_zero {n : Nat} {R : HL} {cx : Cx} {ρ : Env} {L : List HL} {ty : Nat} : OpVal Try.prog n R cx (.build 58 #[]) ty ρ L Fr.zero.v := by
  have h := OpVal.build (n := n) (R := R) (cx := cx) (ρ := ρ) (L := L) (ty := ty) (ps := []) tab_ok (t := 58) rfl rfl rfl rfl trivial rfl
  unfold Fr.v
  rw [zero_l]
  exact h
theorem neFrame {n : Nat} {R : HL} {cx : Cx} {ρ : Env} {L : List HL} {ty t' : Nat} {x y : Operand} {f g : Fr} (hf : f.Ok) (hg : g.Ok) (hx : ev? ρ x = some f.v) (hy : ev? ρ y = some g.v) :
    OpVal Try.prog n R cx (.binOp .neq 58 x y t') ty ρ L (.bool (!eqFr f g)) := OpVal.neD (k := 3) hx hy (frame_eq hf hg) (by decide) frame_guard
theorem eqFrame {n : Nat} {R : HL} {cx : Cx} {ρ : Env} {L : List HL} {ty t' : Nat} {x y : Operand} {f g : Fr} (hf : f.Ok) (hg : g.Ok) (hx : ev? ρ x = some f.v) (hy : ev? ρ y = some g.v) :
    OpVal Try.prog n R cx (.binOp .eql 58 x y t') ty ρ L (.bool (eqFr f g)) := OpVal.eqD (k := 3) hx hy (frame_eq hf hg) (by decide) frame_guard
theorem load_own {n : Nat} {R : HL} {cx : Cx} {ρ : Env} {L : List HL} {ty b : Nat} {x : Operand} {f : Fr} (hf : f.Ok) (hx : ev? ρ x = some (.pointer (some ⟨b, 0, none⟩))) (hb : At R L b (.cells f.l.toArray 58 (0, 0))) :
    OpVal Try.prog n R cx (.load 58 x) ty ρ L f.v :=
  OpVal.loadN ty_58.1 ty_58.2 hx hb (by rw [← Fr.l_len hf]; exact seg_all _)
def Pt.at_ (p : Pt) (i : Int) : Fr := if 0 ≤ i ∧ i < p.fs.length then p.fs.getD i.toNat Fr.zero else Fr.zero
theorem Pt.at_nat {p : Pt} {i : Nat} (hi : i < p.fs.length) : p.at_ (i : Int) = p.fs[i] := by
  unfold Pt.at_
  rw [if_pos (by omega), Int.toNat_natCast, List.getD_eq_getElem?_getD, List.getElem?_eq_getElem hi, Option.getD_some]
theorem Pt.at_ok {p : Pt} (h : p.Ok) (i : Int) : (p.at_ i).Ok := by
  unfold Pt.at_
  split
  · rename_i hi
    rw [List.getD_eq_getElem?_getD, List.getElem?_eq_getElem (by omega), Option.getD_some]
    exact h.1 _ (List.getElem_mem _)
  · exact Fr.zero_ok
theorem pin_spec (p : Pt) (b : Nat) (H : HL) (hp : PtAt p b H) (i : Int) : Ctr Try.prog 36 [.pointer (some ⟨b, 0, none⟩), .int .i64 i] [] H (fun v L' => v = .bool (decide (0 ≤ i ∧ i < p.fs.length)) ∧ L' = []) := by
  obtain ⟨bf, bm, es, clock, rfl, hm⟩ := hp
  refine Ctr.enter (n := 16) [.tmp 4] [(0, _), (1, _)] Try.func36 rfl rfl rfl (lb rfl) Try.call36 ⟨rfl, rfl, trivial⟩ ?_
  intro cx fin fin0
  refine aG ?_
  by_cases h : 0 ≤ i
  · repeat (first | refine aGo ?_ (hw := by exact gd h) | fail)
    repeat (first | refine gw ?_ | refine gN fun _ => ?_ | refine gB fun _ => ?_ | fail)
    repeat (first | refine aGo ?_ (hw := by exact gd h) | fail)
    repeat (first | refine gw ?_ | refine gN fun _ => ?_ | refine gB fun _ => ?_ | fail)
    refine aPT ?_ (hb := by exact gd h)
    refine W.ret (fin _ _ (FinOk.mk' ([]) (.tmp rfl .nil) (by repeat (first | exact Sel.nil | (apply Sel.cons; (repeat (first | exact Pick.here | apply Pick.there))))) rfl ?_))
    exact ⟨by simp [pack, h], rfl⟩
  · repeat (first | refine aSk ?_ (hw := by exact gd h) | fail)
    refine aPF ?_ (hb := by exact gd h)
    refine W.ret (fin _ _ (FinOk.mk' ([]) (.tmp rfl .nil) (by repeat (first | exact Sel.nil | (apply Sel.cons; (repeat (first | exact Pick.here | apply Pick.there))))) rfl ?_))
    exact ⟨by simp [pack, h], rfl⟩
theorem PAt_spec (p : Pt) (hpo : p.Ok) (b : Nat) (H : HL) (hp : PtAt p b H) (i : Int) : Ctr Try.prog 17 [.pointer (some ⟨b, 0, none⟩), .int .i64 i] [] H (fun v L' => v = (p.at_ i).v ∧ L' = []) := by
  have hI := pin_spec p b H hp i
  obtain ⟨bf, bm, es, clock, rfl, hm⟩ := hp
  refine Ctr.enter (n := 17) [.cell 4 58] [(0, _), (1, _)] Try.func17 rfl rfl rfl (lb rfl) Try.call17 ⟨rfl, rfl, trivial⟩ ?_
  intro cx fin fin0
  refine aG ?_
  refine aW (NewOf.new tab_ok rfl rfl) ?_
  intro _
  refine aG ?_
  refine aC (o := hI) (h := ?_)
  rintro _ _ ⟨rfl, rfl⟩
  refine aG ?_
  by_cases h : 0 ≤ i ∧ i < p.fs.length
  · refine aF ?_ (hb := by exact gd h)
    obtain ⟨j, rfl⟩ : ∃ j : Nat, i = (j : Int) := ⟨i.toNat, by omega⟩
    have hj : j < p.fs.length := by omega
    have hfo := hpo.1 _ (List.getElem_mem hj)
    repeat (first | refine gw ?_ | refine gN fun _ => ?_ | refine gB fun _ => ?_ | fail)
    refine aV (OpVal.ixSl tab_ok rfl rfl rfl rfl rfl hj) ?_
    refine aV (load_frame tab_ok rfl hpo.1 hj rfl (at_ro 1 rfl)) ?_
    refine W.store tab_ok rfl Upd.here rfl rfl rfl (Fr.l_len hfo) (Fr.l_one _) (store_all hfo rfl) (W.step tab_ok rfl rfl ?_)
    refine W.ret (fin _ _ (FinOk.first 0 (.cellN ty_58.1 ty_58.2 rfl (at_own 0 rfl) (by rw [← Fr.l_len hfo]; exact seg_all _) .nil) rfl ?_))
    exact ⟨by rw [Pt.at_nat hj]; rfl, rfl⟩
  · refine aT ?_ (hb := by exact gd h)
    refine aV (build_zero) ?_
    refine W.store tab_ok rfl Upd.here rfl rfl rfl (Fr.l_len Fr.zero_ok) (Fr.l_one _) (store_all Fr.zero_ok rfl) (W.step tab_ok rfl rfl ?_)
    refine W.ret (fin _ _ (FinOk.first 0 (.cellN ty_58.1 ty_58.2 rfl (at_own 0 rfl) (by rw [← Fr.l_len Fr.zero_ok]; exact seg_all _) .nil) rfl ?_))
    exact ⟨by unfold Pt.at_; rw [if_neg h]; rfl, rfl⟩
end Go.Proofs.Ytgipjpiiomgjjaa
