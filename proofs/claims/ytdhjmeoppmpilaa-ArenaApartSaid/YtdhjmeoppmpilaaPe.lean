/-
  Frames compared; Empty of a partition.
-/
import Derived.Test.YtdhjmeoppmpilaaPa
import Derived.Test.YtdhjmeoppmpilaaEd
namespace Go.Proofs.Ytdhjmeoppmpilaa
open Go Go.Sl Go.IntWalk
set_option maxHeartbeats 2000000
set_option maxRecDepth 20000
def eqFl (f g : Fr) : Bool := (f.used == g.used) && ((f.dirty == g.dirty) && ((f.ref == g.ref) && ((f.pins == g.pins) && true)))
theorem flags_eq (f g : Fr) : EqD Try.prog 2 48 (.agg #[.bool f.used, .bool f.dirty, .bool f.ref, .int .i64 f.pins]) (.agg #[.bool g.used, .bool g.dirty, .bool g.ref, .int .i64 g.pins]) (eqFl f g) :=
  EqD.struct (P := Try.prog) (k := 1) (fs := Try.prog.fieldsOf 48) (by kernel_rfl) (by kernel_rfl)
    (FEqs.of_sig (sig := [(false, 4, 0), (false, 4, 1), (false, 4, 2), (false, 3, 3)]) (by kernel_rfl)
      ⟨_, _, rfl, rfl, FEqT.one ty_4.1 rfl rfl (EqD.bool Try.underlying4), _, _, rfl, rfl, FEqT.one ty_4.1 rfl rfl (EqD.bool Try.underlying4), _, _, rfl, rfl, FEqT.one ty_4.1 rfl rfl (EqD.bool Try.underlying4),
        _, _, rfl, rfl, FEqT.one ty_3.1 rfl rfl (EqD.int Try.underlying3), rfl⟩)
def eqFr (f g : Fr) : Bool := eqFl f g && ((f.page == g.page) && (decide (f.b = g.b) && true))
theorem eqFr_iff (f g : Fr) : eqFr f g = true ↔ f = g := by
  obtain ⟨a1, a2, a3, a4, a5, a6⟩ := f
  obtain ⟨b1, b2, b3, b4, b5, b6⟩ := g
  simp [eqFr, eqFl, and_assoc]
theorem seg_bytes {f : Fr} (h : f.Ok) : seg? f.l 5 32 = some (f.b.map (.int .u8)) := by
  have h1 : f.b.length = 32 := h
  have h2 := seg?_of f.l 5 32 (by rw [Fr.l_len h]; decide)
  rw [h2]
  simp [Fr.l, List.take_of_length_le, h1]
theorem frame_eq {f g : Fr} (hf : f.Ok) (hg : g.Ok) : EqD Try.prog 3 51 f.v g.v (eqFr f g) :=
  EqD.struct (P := Try.prog) (k := 2) (fs := Try.prog.fieldsOf 51) (by kernel_rfl) (by kernel_rfl)
    (FEqs.of_sig (sig := [(false, 48, 0), (false, 3, 4), (false, 49, 5)]) (by kernel_rfl)
      ⟨_, _, rfl, rfl, FEqT.agg ty_48.1 ty_48.2 rfl rfl (flags_eq f g), _, _, rfl, rfl, FEqT.one ty_3.1 rfl rfl ((EqD.int Try.underlying3).more (by decide)),
        _, _, rfl, rfl, FEqT.agg ty_49.1 ty_49.2 (seg_bytes hf) (seg_bytes hg) (EqD.arr Try.underlying49 (i := Try.t5) rfl (by kernel_rfl) ty_5.1 Try.underlying5 hf hg), rfl⟩)
theorem frame_guard : Try.prog.eqGuardType Try.prog.depth 51 = false := by kernel_rfl
def Pt.empty (p : Pt) : Bool := p.fs.all fun f => eqFr f Fr.zero
theorem load_frame {P : Program} {n : Nat} {R : HL} {cx : Cx} {ρ : Env} {L : List HL} {x : Operand} {ty bf i : Nat} {fs : List Fr} {T : Tab} (hT : TabOk P T) (hty : look? T.tys 51 = some (true, 37)) (hok : ∀ f ∈ fs, f.Ok) (hi : i < fs.length)
    (hx : ev? ρ x = some (.pointer (some ⟨bf, 0 + i * 37, none⟩))) (hb : At R L bf (.cells (flat fs).toArray 51 (0, 0))) : OpVal P n R cx (.load 51 x) ty ρ L fs[i].v :=
  OpVal.load hT hx hb (by unfold ldv?; rw [hty]; simp only; rw [seg_frame hok hi]; rfl)
theorem store_all {l : List Value} {f : Fr} (hf : f.Ok) (h : l.length = 37) : splice? l 0 f.l = some f.l := splice_all (by rw [Fr.l_len hf, h])
theorem zero_l : Fr.zero.l = [.bool false, .bool false, .bool false, .int .i64 0, .int .i64 0, .int .u8 0, .int .u8 0, .int .u8 0, .int .u8 0, .int .u8 0, .int .u8 0, .int .u8 0, .int .u8 0, .int .u8 0, .int .u8 0, .int .u8 0, .int .u8 0, .int .u8 0, .int .u8 0, .int .u8 0, .int .u8 0, .int .u8 0, .int .u8 0, .int .u8 0, .int .u8 0, .int .u8 0, .int .u8 0, .int .u8 0, .int .u8 0, .int .u8 0, .int .u8 0, .int .u8 0, .int .u8 0, .int .u8 0, .int .u8 0, .int .u8 0, .int .u8 0] := rfl
theorem build_zero {n : Nat} {R : HL} {cx : Cx} {ρ : Env} {L : List HL} {ty : Nat} : OpVal Try.prog n R cx (.build 51 #[]) ty ρ L Fr.zero.v := by
  have h := OpVal.build (n := n) (R := R) (cx := cx) (ρ := ρ) (L := L) (ty := ty) (ps := []) tab_ok (t := 51) rfl rfl rfl rfl trivial rfl
  unfold Fr.v
  rw [zero_l]
  exact h
theorem neFrame {n : Nat} {R : HL} {cx : Cx} {ρ : Env} {L : List HL} {ty t' : Nat} {x y : Operand} {f g : Fr} (hf : f.Ok) (hg : g.Ok) (hx : ev? ρ x = some f.v) (hy : ev? ρ y = some g.v) :
    OpVal Try.prog n R cx (.binOp .neq 51 x y t') ty ρ L (.bool (!eqFr f g)) := OpVal.neD (k := 3) hx hy (frame_eq hf hg) (by decide) frame_guard
theorem eqFrame {n : Nat} {R : HL} {cx : Cx} {ρ : Env} {L : List HL} {ty t' : Nat} {x y : Operand} {f g : Fr} (hf : f.Ok) (hg : g.Ok) (hx : ev? ρ x = some f.v) (hy : ev? ρ y = some g.v) :
    OpVal Try.prog n R cx (.binOp .eql 51 x y t') ty ρ L (.bool (eqFr f g)) := OpVal.eqD (k := 3) hx hy (frame_eq hf hg) (by decide) frame_guard
theorem load_own {n : Nat} {R : HL} {cx : Cx} {ρ : Env} {L : List HL} {ty b : Nat} {x : Operand} {f : Fr} (hf : f.Ok) (hx : ev? ρ x = some (.pointer (some ⟨b, 0, none⟩))) (hb : At R L b (.cells f.l.toArray 51 (0, 0))) :
    OpVal Try.prog n R cx (.load 51 x) ty ρ L f.v :=
  OpVal.loadN ty_51.1 ty_51.2 hx hb (by rw [← Fr.l_len hf]; exact seg_all _)
theorem PEmpty_spec (p : Pt) (hpo : p.Ok) (b : Nat) (H : HL) (hp : PtAt p b H) : Ctr Try.prog 35 [.pointer (some ⟨b, 0, none⟩)] [] H (fun v L' => v = .bool p.empty ∧ L' = []) := by
  have hok := hpo.1
  have h64 := hpo.2.2
  obtain ⟨bf, bm, es, clock, rfl, hm⟩ := hp
  refine Ctr.enter (n := 18) [.tmp 2] [(0, _)] Try.func35 rfl rfl rfl (Nat.le_of_ble_eq_true rfl) Try.call35 ⟨rfl, trivial⟩ ?_
  intro cx fin fin0
  refine W.step tab_ok rfl rfl ?_
  repeat (first | (refine W.isLoad ?_; refine W.val (OpVal.load tab_ok rfl (by first | exact at_own 0 rfl | exact at_own 1 rfl | exact at_own 2 rfl | exact at_own 3 rfl | exact at_own 4 rfl | exact at_own 5 rfl | exact at_own 6 rfl | exact at_own 7 rfl | exact at_own 8 rfl | exact at_own 9 rfl | exact at_own 10 rfl | exact at_own 11 rfl | exact at_ro 0 rfl | exact at_ro 1 rfl | exact at_ro 2 rfl | exact at_ro 3 rfl) (by rfl)) (by exact Nat.le_of_ble_eq_true rfl) ?_; refine W.step tab_ok rfl rfl ?_) | (refine W.isStore ?_; refine W.store tab_ok rfl (by first | exact Upd.here | exact (Upd.there Upd.here) | exact (Upd.there (Upd.there Upd.here)) | exact (Upd.there (Upd.there (Upd.there Upd.here))) | exact (Upd.there (Upd.there (Upd.there (Upd.there Upd.here)))) | exact (Upd.there (Upd.there (Upd.there (Upd.there (Upd.there Upd.here))))) | exact (Upd.there (Upd.there (Upd.there (Upd.there (Upd.there (Upd.there Upd.here)))))) | exact (Upd.there (Upd.there (Upd.there (Upd.there (Upd.there (Upd.there (Upd.there Upd.here))))))) | exact (Upd.there (Upd.there (Upd.there (Upd.there (Upd.there (Upd.there (Upd.there (Upd.there Upd.here)))))))) | exact (Upd.there (Upd.there (Upd.there (Upd.there (Upd.there (Upd.there (Upd.there (Upd.there (Upd.there Upd.here))))))))) | exact (Upd.there (Upd.there (Upd.there (Upd.there (Upd.there (Upd.there (Upd.there (Upd.there (Upd.there (Upd.there Upd.here)))))))))) | exact (Upd.there (Upd.there (Upd.there (Upd.there (Upd.there (Upd.there (Upd.there (Upd.there (Upd.there (Upd.there (Upd.there Upd.here)))))))))))) rfl rfl rfl rfl rfl (by rfl) ?_; refine W.step tab_ok rfl rfl ?_) | (refine W.isNew ?_; refine W.new tab_ok rfl rfl (by exact Nat.le_of_ble_eq_true rfl) ?_; intro _; refine W.step tab_ok rfl rfl ?_) | (refine W.isBox ?_; refine W.box rfl rfl (by exact Nat.le_of_ble_eq_true rfl) ?_; intro _; refine W.step tab_ok rfl rfl ?_))
  refine W.loop (fun k ρ1 L1 => ∃ (j : Nat), j ≤ p.fs.length ∧ (p.fs.take j).all (fun f => eqFr f Fr.zero) = true ∧ k = p.fs.length - j ∧ ρ1 = [(10, .int .i64 (j : Int)), (9, .int .i64 (p.fs.length : Int)), (8, .slice (some ⟨bf, 0, none⟩) p.fs.length p.fs.length)] ∧ L1 = []) _ _ _ (by repeat (first | exact trivial | refine ⟨rfl, ?_⟩)) (by repeat (first | exact Sel.nil | (apply Sel.cons; (repeat (first | exact Pick.here | apply Pick.there))))) (⟨0, Nat.zero_le _, rfl, rfl, rfl, rfl⟩) ?_
  rintro k ρ1 L1 ⟨j, hj, hall, rfl, rfl, rfl⟩
  refine W.step tab_ok rfl rfl ?_
  by_cases hlt : j < p.fs.length
  · refine W.iteT rfl (by simp; omega) (W.step tab_ok rfl rfl ?_)
    have hfo := hok _ (List.getElem_mem hlt)
    have hnx : p.fs.take (j + 1) = p.fs.take j ++ [p.fs[j]] := by rw [List.take_add_one]; simp [hlt]
    have hmem : p.fs[j] ∈ p.fs := List.getElem_mem hlt
    have hld : ∀ (n : Nat) (cx : Cx) (ρ : Env) (L : List HL) (x : Operand) (ty : Nat) R, ev? ρ x = some (.pointer (some ⟨bf, 0 + j * 37, none⟩)) → At R L bf (.cells (flat p.fs).toArray 51 (0, 0)) → OpVal Try.prog n R cx (.load 51 x) ty ρ L p.fs[j].v := fun n cx ρ L x ty R hx hb => load_frame tab_ok rfl hok hlt hx hb
    generalize p.fs[j] = f at hfo hnx hmem hld
    refine W.val (OpVal.ixSl tab_ok rfl rfl rfl rfl rfl hlt) (by exact Nat.le_of_ble_eq_true rfl) (W.step tab_ok rfl rfl ?_)
    refine W.val (hld _ _ _ _ _ _ _ rfl (at_ro 1 rfl)) (by exact Nat.le_of_ble_eq_true rfl) (W.step tab_ok rfl rfl ?_)
    refine W.new tab_ok rfl rfl (by decide) ?_
    intro bt
    refine W.step tab_ok rfl rfl ?_
    refine W.store tab_ok rfl Upd.here rfl rfl rfl (Fr.l_len hfo) (Fr.l_one f) (store_all hfo rfl) (W.step tab_ok rfl rfl ?_)
    refine W.val (load_own hfo rfl (at_own 0 rfl)) (by exact Nat.le_of_ble_eq_true rfl) (W.step tab_ok rfl rfl ?_)
    refine W.val (build_zero) (by exact Nat.le_of_ble_eq_true rfl) (W.step tab_ok rfl rfl ?_)
    refine W.val (neFrame hfo Fr.zero_ok rfl rfl) (by exact Nat.le_of_ble_eq_true rfl) (W.step tab_ok rfl rfl ?_)
    by_cases he : eqFr f Fr.zero = true
    · refine W.iteF rfl (by simp [he]) (W.step tab_ok rfl rfl ?_)
      refine W.val (OpVal.add rfl rfl (i64_in _ (by omega))) (by exact Nat.le_of_ble_eq_true rfl) (W.step tab_ok rfl rfl ?_)
      refine W.rnd _ _ (by repeat (first | exact trivial | refine ⟨rfl, ?_⟩)) (by repeat (first | exact Sel.nil | (apply Sel.cons; (repeat (first | exact Pick.here | apply Pick.there))))) (⟨p.fs.length - (j + 1), by omega, j + 1, by omega, by rw [hnx]; simp [hall, he], rfl, rfl, rfl⟩)
    · refine W.iteT rfl (by simp [he]) (W.step tab_ok rfl rfl ?_)
      refine W.ret (fin _ _ (FinOk.mk' ([]) (.tmp rfl .nil) (by repeat (first | exact Sel.nil | (apply Sel.cons; (repeat (first | exact Pick.here | apply Pick.there))))) rfl ?_))
      refine ⟨?_, rfl⟩
      have : p.empty = false := by
        unfold Pt.empty
        rw [List.all_eq_false]
        exact ⟨f, hmem, by simpa using he⟩
      rw [this]
      rfl
  · refine W.iteF rfl (by simp; omega) (W.step tab_ok rfl rfl ?_)
    have : j = p.fs.length := by omega
    subst this
    rw [List.take_length] at hall
    refine W.ret (fin _ _ (FinOk.mk' ([]) (.tmp rfl .nil) (by repeat (first | exact Sel.nil | (apply Sel.cons; (repeat (first | exact Pick.here | apply Pick.there))))) rfl ?_))
    refine ⟨?_, rfl⟩
    unfold Pt.empty
    rw [hall]
    rfl
def Pt.at_ (p : Pt) (i : Int) : Fr := if 0 ≤ i ∧ i < p.fs.length then p.fs.getD i.toNat Fr.zero else Fr.zero
theorem Pt.at_nat {p : Pt} {i : Nat} (hi : i < p.fs.length) : p.at_ (i : Int) = p.fs[i] := by
  unfold Pt.at_
  rw [if_pos (by omega), Int.toNat_natCast, List.getD_eq_getElem?_getD, List.getElem?_eq_getElem hi, Option.getD_some]
theorem Pt.at_ok {p : Pt} (h : p.Ok) (i : Int) : (p.at_ i).Ok := by
  unfold Pt.at_
  split
  · rename_i hi
    rw [List.getD_eq_getElem?_getD, List.getElem?_eq_getElem (by omega), Option.getD_some]
    exact h.1 _ (List.getElem_mem _)
  · exact Fr.zero_ok
theorem pin_spec (p : Pt) (b : Nat) (H : HL) (hp : PtAt p b H) (i : Int) : Ctr Try.prog 58 [.pointer (some ⟨b, 0, none⟩), .int .i64 i] [] H (fun v L' => v = .bool (decide (0 ≤ i ∧ i < p.fs.length)) ∧ L' = []) := by
  obtain ⟨bf, bm, es, clock, rfl, hm⟩ := hp
  refine Ctr.enter (n := 16) [.tmp 4] [(0, _), (1, _)] Try.func58 rfl rfl rfl (Nat.le_of_ble_eq_true rfl) Try.call58 ⟨rfl, rfl, trivial⟩ ?_
  intro cx fin fin0
  refine W.step tab_ok rfl rfl ?_
  by_cases h : 0 ≤ i
  · repeat (refine W.guardGo rfl rfl (by simp [h]) (W.step tab_ok rfl rfl ?_))
    repeat (first | (refine W.isLoad ?_; refine W.val (OpVal.load tab_ok rfl (by first | exact at_own 0 rfl | exact at_own 1 rfl | exact at_own 2 rfl | exact at_own 3 rfl | exact at_own 4 rfl | exact at_own 5 rfl | exact at_own 6 rfl | exact at_own 7 rfl | exact at_own 8 rfl | exact at_own 9 rfl | exact at_own 10 rfl | exact at_own 11 rfl | exact at_ro 0 rfl | exact at_ro 1 rfl | exact at_ro 2 rfl | exact at_ro 3 rfl) (by rfl)) (by exact Nat.le_of_ble_eq_true rfl) ?_; refine W.step tab_ok rfl rfl ?_) | (refine W.isStore ?_; refine W.store tab_ok rfl (by first | exact Upd.here | exact (Upd.there Upd.here) | exact (Upd.there (Upd.there Upd.here)) | exact (Upd.there (Upd.there (Upd.there Upd.here))) | exact (Upd.there (Upd.there (Upd.there (Upd.there Upd.here)))) | exact (Upd.there (Upd.there (Upd.there (Upd.there (Upd.there Upd.here))))) | exact (Upd.there (Upd.there (Upd.there (Upd.there (Upd.there (Upd.there Upd.here)))))) | exact (Upd.there (Upd.there (Upd.there (Upd.there (Upd.there (Upd.there (Upd.there Upd.here))))))) | exact (Upd.there (Upd.there (Upd.there (Upd.there (Upd.there (Upd.there (Upd.there (Upd.there Upd.here)))))))) | exact (Upd.there (Upd.there (Upd.there (Upd.there (Upd.there (Upd.there (Upd.there (Upd.there (Upd.there Upd.here))))))))) | exact (Upd.there (Upd.there (Upd.there (Upd.there (Upd.there (Upd.there (Upd.there (Upd.there (Upd.there (Upd.there Upd.here)))))))))) | exact (Upd.there (Upd.there (Upd.there (Upd.there (Upd.there (Upd.there (Upd.there (Upd.there (Upd.there (Upd.there (Upd.there Upd.here)))))))))))) rfl rfl rfl rfl rfl (by rfl) ?_; refine W.step tab_ok rfl rfl ?_) | (refine W.isNew ?_; refine W.new tab_ok rfl rfl (by exact Nat.le_of_ble_eq_true rfl) ?_; intro _; refine W.step tab_ok rfl rfl ?_) | (refine W.isBox ?_; refine W.box rfl rfl (by exact Nat.le_of_ble_eq_true rfl) ?_; intro _; refine W.step tab_ok rfl rfl ?_))
    repeat (refine W.guardGo rfl rfl (by simp [h]) (W.step tab_ok rfl rfl ?_))
    repeat (first | (refine W.isLoad ?_; refine W.val (OpVal.load tab_ok rfl (by first | exact at_own 0 rfl | exact at_own 1 rfl | exact at_own 2 rfl | exact at_own 3 rfl | exact at_own 4 rfl | exact at_own 5 rfl | exact at_own 6 rfl | exact at_own 7 rfl | exact at_own 8 rfl | exact at_own 9 rfl | exact at_own 10 rfl | exact at_own 11 rfl | exact at_ro 0 rfl | exact at_ro 1 rfl | exact at_ro 2 rfl | exact at_ro 3 rfl) (by rfl)) (by exact Nat.le_of_ble_eq_true rfl) ?_; refine W.step tab_ok rfl rfl ?_) | (refine W.isStore ?_; refine W.store tab_ok rfl (by first | exact Upd.here | exact (Upd.there Upd.here) | exact (Upd.there (Upd.there Upd.here)) | exact (Upd.there (Upd.there (Upd.there Upd.here))) | exact (Upd.there (Upd.there (Upd.there (Upd.there Upd.here)))) | exact (Upd.there (Upd.there (Upd.there (Upd.there (Upd.there Upd.here))))) | exact (Upd.there (Upd.there (Upd.there (Upd.there (Upd.there (Upd.there Upd.here)))))) | exact (Upd.there (Upd.there (Upd.there (Upd.there (Upd.there (Upd.there (Upd.there Upd.here))))))) | exact (Upd.there (Upd.there (Upd.there (Upd.there (Upd.there (Upd.there (Upd.there (Upd.there Upd.here)))))))) | exact (Upd.there (Upd.there (Upd.there (Upd.there (Upd.there (Upd.there (Upd.there (Upd.there (Upd.there Upd.here))))))))) | exact (Upd.there (Upd.there (Upd.there (Upd.there (Upd.there (Upd.there (Upd.there (Upd.there (Upd.there (Upd.there Upd.here)))))))))) | exact (Upd.there (Upd.there (Upd.there (Upd.there (Upd.there (Upd.there (Upd.there (Upd.there (Upd.there (Upd.there (Upd.there Upd.here)))))))))))) rfl rfl rfl rfl rfl (by rfl) ?_; refine W.step tab_ok rfl rfl ?_) | (refine W.isNew ?_; refine W.new tab_ok rfl rfl (by exact Nat.le_of_ble_eq_true rfl) ?_; intro _; refine W.step tab_ok rfl rfl ?_) | (refine W.isBox ?_; refine W.box rfl rfl (by exact Nat.le_of_ble_eq_true rfl) ?_; intro _; refine W.step tab_ok rfl rfl ?_))
    refine W.val (OpVal.pickT rfl (by simp [h]) rfl) (by exact Nat.le_of_ble_eq_true rfl) (W.step tab_ok rfl rfl ?_)
    refine W.ret (fin _ _ (FinOk.mk' ([]) (.tmp rfl .nil) (by repeat (first | exact Sel.nil | (apply Sel.cons; (repeat (first | exact Pick.here | apply Pick.there))))) rfl ?_))
    exact ⟨by simp [pack, h], rfl⟩
  · repeat (refine W.guardSkip rfl rfl (by simp [h]) (by exact Nat.le_of_ble_eq_true rfl) (W.step tab_ok rfl rfl ?_))
    refine W.val (OpVal.pickF rfl (by simp [h]) rfl) (by exact Nat.le_of_ble_eq_true rfl) (W.step tab_ok rfl rfl ?_)
    refine W.ret (fin _ _ (FinOk.mk' ([]) (.tmp rfl .nil) (by repeat (first | exact Sel.nil | (apply Sel.cons; (repeat (first | exact Pick.here | apply Pick.there))))) rfl ?_))
    exact ⟨by simp [pack, h], rfl⟩
theorem PAt_spec (p : Pt) (hpo : p.Ok) (b : Nat) (H : HL) (hp : PtAt p b H) (i : Int) : Ctr Try.prog 31 [.pointer (some ⟨b, 0, none⟩), .int .i64 i] [] H (fun v L' => v = (p.at_ i).v ∧ L' = []) := by
  have hI := pin_spec p b H hp i
  obtain ⟨bf, bm, es, clock, rfl, hm⟩ := hp
  refine Ctr.enter (n := 17) [.cell 4 51] [(0, _), (1, _)] Try.func31 rfl rfl rfl (Nat.le_of_ble_eq_true rfl) Try.call31 ⟨rfl, rfl, trivial⟩ ?_
  intro cx fin fin0
  refine W.step tab_ok rfl rfl ?_
  refine W.nw (NewOf.new tab_ok rfl rfl) (by exact Nat.le_of_ble_eq_true rfl) ?_
  intro _
  refine W.step tab_ok rfl rfl ?_
  refine W.call rfl rfl rfl rfl (hI) (by repeat (first | exact Sel.nil | (apply Sel.cons; (repeat (first | exact Pick.here | apply Pick.there))))) (by repeat (first | exact RoIn.nil | exact RoIn.same | refine RoIn.cons (by first | exact at_own 0 rfl | exact at_own 1 rfl | exact at_own 2 rfl | exact at_own 3 rfl | exact at_own 4 rfl | exact at_own 5 rfl | exact at_own 6 rfl | exact at_own 7 rfl | exact at_own 8 rfl | exact at_own 9 rfl | exact at_own 10 rfl | exact at_own 11 rfl | exact at_ro 0 rfl | exact at_ro 1 rfl | exact at_ro 2 rfl | exact at_ro 3 rfl | exact at_ro 4 rfl | exact at_ro 5 rfl) ?_ | refine RoIn.append ?_ ?_ | exact RoIn.own 0 rfl | exact RoIn.own 1 rfl | exact RoIn.own 2 rfl | exact RoIn.own 3 rfl | exact RoIn.own 4 rfl | exact RoIn.own 5 rfl | exact RoIn.own 6 rfl | exact RoIn.own 7 rfl | exact RoIn.own 8 rfl | exact RoIn.own 9 rfl | exact RoIn.own 10 rfl | exact RoIn.own 11 rfl | (intro p hp; simp [hp]; done))) (by exact Nat.le_of_ble_eq_true rfl) ?_
  rintro _ _ ⟨rfl, rfl⟩
  refine W.step tab_ok rfl rfl ?_
  by_cases h : 0 ≤ i ∧ i < p.fs.length
  · refine W.iteF rfl (by simp [h]) (W.step tab_ok rfl rfl ?_)
    obtain ⟨j, rfl⟩ : ∃ j : Nat, i = (j : Int) := ⟨i.toNat, by omega⟩
    have hj : j < p.fs.length := by omega
    have hfo := hpo.1 _ (List.getElem_mem hj)
    repeat (first | (refine W.isLoad ?_; refine W.val (OpVal.load tab_ok rfl (by first | exact at_own 0 rfl | exact at_own 1 rfl | exact at_own 2 rfl | exact at_own 3 rfl | exact at_own 4 rfl | exact at_own 5 rfl | exact at_own 6 rfl | exact at_own 7 rfl | exact at_own 8 rfl | exact at_own 9 rfl | exact at_own 10 rfl | exact at_own 11 rfl | exact at_ro 0 rfl | exact at_ro 1 rfl | exact at_ro 2 rfl | exact at_ro 3 rfl) (by rfl)) (by exact Nat.le_of_ble_eq_true rfl) ?_; refine W.step tab_ok rfl rfl ?_) | (refine W.isStore ?_; refine W.store tab_ok rfl (by first | exact Upd.here | exact (Upd.there Upd.here) | exact (Upd.there (Upd.there Upd.here)) | exact (Upd.there (Upd.there (Upd.there Upd.here))) | exact (Upd.there (Upd.there (Upd.there (Upd.there Upd.here)))) | exact (Upd.there (Upd.there (Upd.there (Upd.there (Upd.there Upd.here))))) | exact (Upd.there (Upd.there (Upd.there (Upd.there (Upd.there (Upd.there Upd.here)))))) | exact (Upd.there (Upd.there (Upd.there (Upd.there (Upd.there (Upd.there (Upd.there Upd.here))))))) | exact (Upd.there (Upd.there (Upd.there (Upd.there (Upd.there (Upd.there (Upd.there (Upd.there Upd.here)))))))) | exact (Upd.there (Upd.there (Upd.there (Upd.there (Upd.there (Upd.there (Upd.there (Upd.there (Upd.there Upd.here))))))))) | exact (Upd.there (Upd.there (Upd.there (Upd.there (Upd.there (Upd.there (Upd.there (Upd.there (Upd.there (Upd.there Upd.here)))))))))) | exact (Upd.there (Upd.there (Upd.there (Upd.there (Upd.there (Upd.there (Upd.there (Upd.there (Upd.there (Upd.there (Upd.there Upd.here)))))))))))) rfl rfl rfl rfl rfl (by rfl) ?_; refine W.step tab_ok rfl rfl ?_) | (refine W.isNew ?_; refine W.new tab_ok rfl rfl (by exact Nat.le_of_ble_eq_true rfl) ?_; intro _; refine W.step tab_ok rfl rfl ?_) | (refine W.isBox ?_; refine W.box rfl rfl (by exact Nat.le_of_ble_eq_true rfl) ?_; intro _; refine W.step tab_ok rfl rfl ?_))
    refine W.val (OpVal.ixSl tab_ok rfl rfl rfl rfl rfl hj) (by exact Nat.le_of_ble_eq_true rfl) (W.step tab_ok rfl rfl ?_)
    refine W.val (load_frame tab_ok rfl hpo.1 hj rfl (at_ro 1 rfl)) (by exact Nat.le_of_ble_eq_true rfl) (W.step tab_ok rfl rfl ?_)
    refine W.store tab_ok rfl Upd.here rfl rfl rfl (Fr.l_len hfo) (Fr.l_one _) (store_all hfo rfl) (W.step tab_ok rfl rfl ?_)
    refine W.ret (fin _ _ (FinOk.first 0 (.cellN ty_51.1 ty_51.2 rfl (at_own 0 rfl) (by rw [← Fr.l_len hfo]; exact seg_all _) .nil) rfl ?_))
    exact ⟨by rw [Pt.at_nat hj]; rfl, rfl⟩
  · refine W.iteT rfl (by simp [h]) (W.step tab_ok rfl rfl ?_)
    refine W.val (build_zero) (by exact Nat.le_of_ble_eq_true rfl) (W.step tab_ok rfl rfl ?_)
    refine W.store tab_ok rfl Upd.here rfl rfl rfl (Fr.l_len Fr.zero_ok) (Fr.l_one _) (store_all Fr.zero_ok rfl) (W.step tab_ok rfl rfl ?_)
    refine W.ret (fin _ _ (FinOk.first 0 (.cellN ty_51.1 ty_51.2 rfl (at_own 0 rfl) (by rw [← Fr.l_len Fr.zero_ok]; exact seg_all _) .nil) rfl ?_))
    exact ⟨by unfold Pt.at_; rw [if_neg h]; rfl, rfl⟩
end Go.Proofs.Ytdhjmeoppmpilaa
