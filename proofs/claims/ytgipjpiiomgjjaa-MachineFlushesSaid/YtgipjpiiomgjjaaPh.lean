/-
  Release, Clean, Clear, Hand, Dirty of a partition.
-/
import Derived.Test.YtgipjpiiomgjjaaPg
namespace Go.Proofs.Ytgipjpiiomgjjaa
open Go Go.Sl Go.IntWalk
set_option maxHeartbeats 2000000
set_option maxRecDepth 20000
def inFr (p : Pt) (i : Int) : Prop := 0 ≤ i ∧ i < p.fs.length
instance (p : Pt) (i : Int) : Decidable (inFr p i) := by unfold inFr; infer_instance
def Pt.release (p : Pt) (i : Int) : Pt × Int := if ¬ inFr p i then (p, 1) else if (p.at_ i).pins = 0 then (⟨p.fs.set i.toNat Fr.zero, (p.forget i.toNat).tbl, p.hand⟩, 0) else (p, 5)
def Fr.clean (f : Fr) : Fr := ⟨f.used, false, f.ref, f.pins, f.page, f.b⟩
def Pt.clean (p : Pt) (i : Int) : Pt × Int := if ¬ inFr p i then (p, 1) else (p.setF i.toNat (p.at_ i).clean, 0)
def Pt.clear (p : Pt) : Pt := Pt.new p.fs.length
def dirtyFrom (fs : List Fr) (j : Nat) : List Int := match fs with
  | [] => []
  | f :: fs => if f.dirty = true then (j : Int) :: dirtyFrom fs (j + 1) else dirtyFrom fs (j + 1)
def Pt.dirty (p : Pt) : List Int := dirtyFrom p.fs 0
theorem dirtyFrom_snoc (f : Fr) : ∀ (fs : List Fr) (j : Nat), dirtyFrom (fs ++ [f]) j = dirtyFrom fs j ++ (if f.dirty = true then [((j + fs.length : Nat) : Int)] else [])
  | [], j => by simp [dirtyFrom]
  | g :: fs, j => by
    have ih := dirtyFrom_snoc f fs (j + 1)
    have e : j + 1 + fs.length = j + (fs.length + 1) := by omega
    simp only [List.cons_append, dirtyFrom, ih, List.length_cons, e]
    split <;> simp
theorem dirtyFrom_len : ∀ (fs : List Fr) (j : Nat), (dirtyFrom fs j).length ≤ fs.length
  | [], _ => by simp [dirtyFrom]
  | f :: fs, j => by
    have := dirtyFrom_len fs (j + 1)
    unfold dirtyFrom
    split <;> simp <;> omega
theorem Hand_spec (p : Pt) (b : Nat) (H : HL) (hp : PtAt p b H) : Ctr Try.prog 41 [.pointer (some ⟨b, 0, none⟩)] [] H (fun v L' => v = .int .i64 p.hand ∧ L' = []) := by
  obtain ⟨bf, bm, es, clock, rfl, hm⟩ := hp
  refine Ctr.enter (n := 7) [.tmp 2] [(0, _)] Try.func41 rfl rfl rfl (lb rfl) Try.call41 ⟨rfl, trivial⟩ ?_
  intro cx fin fin0
  refine aG ?_
  repeat (first | refine gw ?_ | refine gN fun _ => ?_ | refine gB fun _ => ?_ | fail)
  refine W.ret (fin _ _ (FinOk.mk' ([]) (.tmp rfl .nil) (by repeat (first | exact Sel.nil | (apply Sel.cons; (repeat (first | exact Pick.here | apply Pick.there))))) rfl ?_))
  exact ⟨rfl, rfl⟩
theorem Release_spec (p : Pt) (hpo : p.Ok) (b : Nat) (H : HL) (hp : PtAt p b H) (i : Int) : Ctr Try.prog 53 [.pointer (some ⟨b, 0, none⟩), .int .i64 i] [H] []
    (fun v L' => v = .int .i64 (p.release i).2 ∧ ∃ H', L' = [H'] ∧ PtAt (p.release i).1 b H') := by
  have hI := pin_spec p b H hp i
  by_cases hin : inFr p i
  · obtain ⟨j, rfl⟩ : ∃ j : Nat, i = (j : Int) := ⟨i.toNat, by unfold inFr at hin; omega⟩
    have hj : j < p.fs.length := by unfold inFr at hin; omega
    have hin' : (0 ≤ (j : Int) ∧ (j : Int) < p.fs.length) := hin
    have hforget := forget_spec p hpo b H hp j hj
    have hsp := flat_split hj
    have hset := flat_set hj Fr.zero
    have hfo := hpo.1 _ (List.getElem_mem hj)
    have hat := Pt.at_nat hj
    have hA : (flat (p.fs.take j)).length = 0 + j * 37 := by rw [take_flat_len hpo.1 (Nat.le_of_lt hj)]; omega
    have hr : p.release (j : Int) = if p.fs[j].pins = 0 then (⟨p.fs.set j Fr.zero, (p.forget j).tbl, p.hand⟩, 0) else (p, 5) := by
      unfold Pt.release
      rw [if_neg (fun h => h hin), hat, Int.toNat_natCast]
    generalize p.fs[j] = f at hsp hfo hr
    have hz := Zero_spec f hfo (flat (p.fs.take j)) (flat (p.fs.drop (j + 1)))
    have hfr := FFree_spec f (flat (p.fs.take j)) (flat (p.fs.drop (j + 1)))
    refine Ctr.enter (n := 30) [.tmp 4] [(0, _), (1, _)] Try.func53 rfl rfl rfl (lb rfl) Try.call53 ⟨rfl, rfl, trivial⟩ ?_
    intro cx fin fin0
    refine aG ?_
    refine aC (o := hI) (h := ?_)
    rintro _ _ ⟨rfl, rfl⟩
    refine aG ?_
    refine aF ?_ (hb := by exact gd hin')
    obtain ⟨bf, bm, es, clock, rfl, hm⟩ := hp
    refine W.split 0 rfl ?_
    refine aG ?_
    repeat (first | refine gw ?_ | refine gN fun _ => ?_ | refine gB fun _ => ?_ | fail)
    refine aV (OpVal.ixSl tab_ok rfl rfl rfl rfl rfl hj) ?_
    rw [hsp]
    refine aC (o := hfr bf _ 58 hA) (h := ?_) (hro := by exact RoIn.own 1 rfl)
    rintro _ _ ⟨rfl, rfl⟩
    refine aG ?_
    rw [← hsp]
    by_cases h0 : f.pins = 0
    · rw [if_pos h0] at hr
      refine aF ?_ (hb := by exact gd h0)
      refine W.group [0, 0, 0] rfl rfl ?_
      refine aG ?_
      refine aC (o := hforget) (h := ?_)
      rintro _ _ ⟨H2, rfl, hp2⟩
      refine aG ?_
      have hp3 : PtAtF p.fs (p.forget j).tbl p.hand b H2 := hp2
      obtain ⟨bf2, bm2, es2, clock2, rfl, hm2⟩ := hp3
      refine W.split 0 rfl ?_
      refine aG ?_
      repeat (first | refine gw ?_ | refine gN fun _ => ?_ | refine gB fun _ => ?_ | fail)
      refine aV (OpVal.ixSl tab_ok rfl rfl rfl rfl rfl hj) ?_
      rw [hsp]
      refine aC (o := hz bf2 _ 58 hA) (h := ?_)
      rintro _ _ rfl
      refine aG ?_
      rw [← hset]
      refine W.group [1, 0, 0] rfl rfl ?_
      refine W.ret (fin _ _ (FinOk.first 1 (.tmp rfl .nil) rfl ?_))
      rw [hr]
      refine ⟨rfl, _, rfl, bf2, bm2, es2, clock2, ?_, hm2⟩
      simp
    · rw [if_neg h0] at hr
      refine aT ?_ (hb := by exact gd h0)
      refine W.group [0, 0, 0] rfl rfl ?_
      refine aG ?_
      refine W.ret (fin _ _ (FinOk.first 1 (.tmp rfl .nil) rfl ?_))
      rw [hr]
      exact ⟨rfl, _, rfl, bf, bm, es, clock, rfl, hm⟩
  · have hin' : ¬ (0 ≤ i ∧ i < p.fs.length) := hin
    refine Ctr.enter (n := 30) [.tmp 4] [(0, _), (1, _)] Try.func53 rfl rfl rfl (lb rfl) Try.call53 ⟨rfl, rfl, trivial⟩ ?_
    intro cx fin fin0
    refine aG ?_
    refine aC (o := hI) (h := ?_)
    rintro _ _ ⟨rfl, rfl⟩
    refine aG ?_
    refine aT ?_ (hb := by exact gd hin')
    refine W.ret (fin _ _ (FinOk.first 1 (.tmp rfl .nil) rfl ?_))
    have : p.release i = (p, 1) := by unfold Pt.release; rw [if_pos hin]
    rw [this]
    exact ⟨rfl, _, rfl, hp⟩
theorem Clean_spec (p : Pt) (hpo : p.Ok) (b : Nat) (H : HL) (hp : PtAt p b H) (i : Int) : Ctr Try.prog 52 [.pointer (some ⟨b, 0, none⟩), .int .i64 i] [H] []
    (fun v L' => v = .int .i64 (p.clean i).2 ∧ ∃ H', L' = [H'] ∧ PtAt (p.clean i).1 b H') := by
  have hI := pin_spec p b H hp i
  by_cases hin : inFr p i
  · obtain ⟨j, rfl⟩ : ∃ j : Nat, i = (j : Int) := ⟨i.toNat, by unfold inFr at hin; omega⟩
    have hj : j < p.fs.length := by unfold inFr at hin; omega
    have hin' : (0 ≤ (j : Int) ∧ (j : Int) < p.fs.length) := hin
    have hsp := flat_split hj
    have hset := flat_set hj p.fs[j].clean
    have hat := Pt.at_nat hj
    have hA : (flat (p.fs.take j)).length = 0 + j * 37 := by rw [take_flat_len hpo.1 (Nat.le_of_lt hj)]; omega
    have hr : p.clean (j : Int) = (p.setF j p.fs[j].clean, 0) := by
      unfold Pt.clean
      rw [if_neg (fun h => h hin), hat, Int.toNat_natCast]
    generalize p.fs[j] = f at hsp hset hr
    have hw : splice? (flat p.fs) (0 + j * 37 + 1) [.bool false] = some (flat (p.fs.set j f.clean)) := by rw [hsp, hset]; exact splice_mid hA (M := f.l) (o := 1) rfl
    refine Ctr.enter (n := 17) [.tmp 4] [(0, _), (1, _)] Try.func52 rfl rfl rfl (lb rfl) Try.call52 ⟨rfl, rfl, trivial⟩ ?_
    intro cx fin fin0
    refine aG ?_
    refine aC (o := hI) (h := ?_)
    rintro _ _ ⟨rfl, rfl⟩
    refine aG ?_
    refine aF ?_ (hb := by exact gd hin')
    obtain ⟨bf, bm, es, clock, rfl, hm⟩ := hp
    refine W.split 0 rfl ?_
    refine aG ?_
    repeat (first | refine gw ?_ | refine gN fun _ => ?_ | refine gB fun _ => ?_ | fail)
    refine aV (OpVal.ixSl tab_ok rfl rfl rfl rfl rfl hj) ?_
    refine W.store tab_ok rfl (Upd.there Upd.here) rfl rfl rfl rfl rfl hw (W.step tab_ok rfl rfl ?_)
    refine W.group [0, 0, 0] rfl rfl ?_
    refine W.ret (fin _ _ (FinOk.first 1 (.tmp rfl .nil) rfl ?_))
    rw [hr]
    refine ⟨rfl, _, rfl, bf, bm, es, clock, ?_, hm⟩
    simp [Pt.setF]
  · have hin' : ¬ (0 ≤ i ∧ i < p.fs.length) := hin
    refine Ctr.enter (n := 17) [.tmp 4] [(0, _), (1, _)] Try.func52 rfl rfl rfl (lb rfl) Try.call52 ⟨rfl, rfl, trivial⟩ ?_
    intro cx fin fin0
    refine aG ?_
    refine aC (o := hI) (h := ?_)
    rintro _ _ ⟨rfl, rfl⟩
    refine aG ?_
    refine aT ?_ (hb := by exact gd hin')
    refine W.ret (fin _ _ (FinOk.first 1 (.tmp rfl .nil) rfl ?_))
    have : p.clean i = (p, 1) := by unfold Pt.clean; rw [if_pos hin]
    rw [this]
    exact ⟨rfl, _, rfl, hp⟩
theorem flat_one (fs : List Fr) : allOne (flat fs) = true := by
  refine allOne_of fun v hv => ?_
  obtain ⟨f, _, hf⟩ := List.mem_flatMap.1 hv
  exact allOne_mem f.l_one v hf
theorem PDirty_spec (p : Pt) (hpo : p.Ok) (b : Nat) (H : HL) (hp : PtAt p b H) : Ctr Try.prog 22 [.pointer (some ⟨b, 0, none⟩)] [] H (fun v L' => ∃ a cap Hs, v = .slice a p.dirty.length cap ∧ L' = [Hs] ∧
    Own 1 3 (ints p.dirty) a p.dirty.length cap Hs) := by
  have hok := hpo.1
  have h64 := hpo.2.2
  obtain ⟨bf, bm, es, clock, rfl, hm⟩ := hp
  refine Ctr.enter (n := 25) [.tmp 2] [(0, _)] Try.func22 rfl rfl rfl (lb rfl) Try.call22 ⟨rfl, trivial⟩ ?_
  intro cx fin fin0
  refine aG ?_
  repeat (first | refine gw ?_ | refine gN fun _ => ?_ | refine gB fun _ => ?_ | fail)
  refine W.nilChunk ?_
  refine aLp (fun k ρ1 L1 => ∃ (j : Nat) (ds : List Int) (aa : Option Addr) (nn cc : Nat) (Hl : HL), j ≤ p.fs.length ∧ ds = dirtyFrom (p.fs.take j) 0 ∧ nn = ds.length ∧ Own 1 3 (ints ds) aa nn cc Hl ∧ k = p.fs.length - j ∧ ρ1 = [(11, .int .i64 (j : Int)), (10, .int .i64 (p.fs.length : Int)), (9, .slice (some ⟨bf, 0, none⟩) p.fs.length p.fs.length), (3, .slice aa nn cc)] ∧ L1 = [Hl]) (o := ⟨0, [], none, 0, 0, [], Nat.zero_le _, rfl, rfl, Own.nil _ _, rfl, rfl, rfl⟩) (h := ?_)
  rintro k ρ1 L1 ⟨j, ds, aa, nn, cc, Hl, hj, hds, hnn, hown, rfl, rfl, rfl⟩
  refine aG ?_
  by_cases hlt : j < p.fs.length
  · refine aT ?_ (hb := by simp; omega)
    have hfo := hok _ (List.getElem_mem hlt)
    have hnx : dirtyFrom (p.fs.take (j + 1)) 0 = ds ++ (if p.fs[j].dirty = true then [(j : Int)] else []) := by
      rw [List.take_add_one, List.getElem?_eq_getElem hlt, Option.toList_some, dirtyFrom_snoc, ← hds, List.length_take, Nat.min_eq_left hj, Nat.zero_add]
    have hlen : ds.length ≤ 64 := by
      have := dirtyFrom_len (p.fs.take j) 0
      rw [← hds, List.length_take] at this
      omega
    have hld : ∀ (n : Nat) (cx : Cx) (ρ : Env) (L : List HL) (x : Operand) (ty : Nat) R, ev? ρ x = some (.pointer (some ⟨bf, 0 + j * 37, none⟩)) → At R L bf (.cells (flat p.fs).toArray 58 (0, 0)) → OpVal Try.prog n R cx (.load 58 x) ty ρ L p.fs[j].v := fun n cx ρ L x ty R hx hb => load_frame tab_ok rfl hok hlt hx hb
    generalize p.fs[j] = f at hfo hnx hld
    refine aV (OpVal.ixSl tab_ok rfl rfl rfl rfl rfl hlt) ?_
    refine aV (hld _ _ _ _ _ _ _ rfl (at_ro 1 rfl)) ?_
    refine W.new tab_ok rfl rfl (by decide) ?_
    intro bt
    refine aG ?_
    refine W.store tab_ok rfl Upd.here rfl rfl rfl (Fr.l_len hfo) (Fr.l_one f) (store_all hfo rfl) (W.step tab_ok rfl rfl ?_)
    refine aV (OpVal.load (v := .bool f.dirty) tab_ok rfl (at_own 0 rfl) rfl) ?_
    by_cases hd : f.dirty = true
    · rw [if_pos hd] at hnx
      refine aT ?_ (hb := by exact hd)
      refine aSl (ps := [_]) ?_
      intro bq
      refine aG ?_
      refine aAp (hown) ?_
      rintro _ _ ⟨_, _, _, rfl, rfl, ho⟩
      refine aG ?_
      have ei : ints ds ++ [.int .i64 (j : Int)] = ints (ds ++ [(j : Int)]) := by simp [ints]
      rw [ei] at ho
      refine aV (OpVal.add rfl rfl (i64_in _ (by omega))) ?_
      refine aR (o := ⟨p.fs.length - (j + 1), by omega, j + 1, _, _, _, _, _, by omega, hnx.symm, by simp [hnn], ho, rfl, rfl, rfl⟩)
    · rw [if_neg hd, List.append_nil] at hnx
      refine aF ?_ (hb := by simpa using hd)
      refine aV (OpVal.add rfl rfl (i64_in _ (by omega))) ?_
      refine aR (o := ⟨p.fs.length - (j + 1), by omega, j + 1, _, _, _, _, _, by omega, hnx.symm, hnn, hown, rfl, rfl, rfl⟩)
  · refine aF ?_ (hb := by simp; omega)
    have hjn : j = p.fs.length := by omega
    subst hjn
    rw [List.take_length] at hds
    have hpd : p.dirty = ds := hds.symm
    refine W.ret (fin _ _ (FinOk.first 1 (.tmp rfl .nil) rfl ?_))
    rw [hpd, ← hnn]
    exact ⟨aa, cc, Hl, rfl, rfl, hown⟩
end Go.Proofs.Ytgipjpiiomgjjaa
