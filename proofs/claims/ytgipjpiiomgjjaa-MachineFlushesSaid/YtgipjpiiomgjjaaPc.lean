/-
  The clock: which frame goes.
-/
import Derived.Test.YtgipjpiiomgjjaaPb
namespace Go.Proofs.Ytgipjpiiomgjjaa
open Go Go.Sl Go.IntWalk
set_option maxHeartbeats 2000000
set_option maxRecDepth 20000
structure Fl where
  used : Bool
  dirty : Bool
  ref : Bool
  pins : Int
def Fl.l (f : Fl) : List Value := [.bool f.used, .bool f.dirty, .bool f.ref, .int .i64 f.pins]
def Fl.v (f : Fl) : Value := .agg #[.bool f.used, .bool f.dirty, .bool f.ref, .int .i64 f.pins]
def flagsOf (fs : List Fl) : List Value := fs.flatMap Fl.l
theorem flagsOf_len (fs : List Fl) : (flagsOf fs).length = fs.length * 4 := flatMap_len Fl.l 4 (fun _ => rfl) fs
theorem flags_split {fs : List Fl} {i : Nat} (hi : i < fs.length) : flagsOf fs = flagsOf (fs.take i) ++ fs[i].l ++ flagsOf (fs.drop (i + 1)) := by
  have : fs = fs.take i ++ (fs[i] :: fs.drop (i + 1)) := by simp
  conv => lhs; rw [this]
  simp only [flagsOf, List.flatMap_append, List.flatMap_cons, List.append_assoc]
theorem flags_take_len {fs : List Fl} {i : Nat} (hi : i ≤ fs.length) : (flagsOf (fs.take i)).length = i * 4 := by
  rw [flagsOf_len, List.length_take]
  congr 1
  omega
theorem flags_set {fs : List Fl} {i : Nat} (hi : i < fs.length) (g : Fl) : flagsOf (fs.set i g) = flagsOf (fs.take i) ++ g.l ++ flagsOf (fs.drop (i + 1)) := by
  rw [flags_split (by simpa using hi)]
  rw [List.take_set_of_le (Nat.le_refl _), List.drop_set_of_lt (by omega)]
  simp
theorem Free_spec (f : Fl) (A B : List Value) (bf off : Nat) (e : TypeId) (hA : A.length = off) :
    Ctr Try.prog 80 [.pointer (some ⟨bf, off, none⟩)] [] [(bf, .cells (A ++ f.l ++ B).toArray e (0, 0))] (fun v L' => v = .bool (decide (f.pins = 0)) ∧ L' = []) := by
  have hl : (A ++ f.l ++ B)[off + 3]? = some (.int .i64 f.pins) := get_mid hA (M := f.l) (by simp [Fl.l])
  refine Ctr.enter (n := 8) [.tmp 2] [(0, _)] Try.func80 rfl rfl rfl (lb rfl) Try.call80 ⟨rfl, trivial⟩ ?_
  intro cx fin fin0
  refine aG ?_
  refine aV (OpVal.load tab_ok rfl (at_ro 0 rfl) hl) ?_
  refine W.ret (fin _ _ (FinOk.mk' ([]) (.tmp rfl .nil) (by repeat (first | exact Sel.nil | (apply Sel.cons; (repeat (first | exact Pick.here | apply Pick.there))))) rfl ?_))
  exact ⟨rfl, rfl⟩
def Fl.goes (f : Fl) : Fl × Bool := if f.used = false then (f, true) else if f.pins = 0 then ({ f with ref := false }, !f.ref) else (f, false)
theorem goes_spec (fs : List Fl) (i : Nat) (hi : i < fs.length) (rest : List Value) (b8 bo cap : Nat) :
    Ctr Try.prog 106 [.int .i64 (i : Int), .pointer (some ⟨b8, 0, none⟩)] [[(bo, .cells (flagsOf fs ++ rest).toArray 55 (0, 0))]] [(b8, .cells #[.slice (some ⟨bo, 0, none⟩) fs.length cap] 152 (0, 0))]
      (fun v L' => v = .bool (fs[i].goes).2 ∧ L' = [[(bo, .cells (flagsOf (fs.set i (fs[i].goes).1) ++ rest).toArray 55 (0, 0))]]) := by
  have hsp := flags_split hi
  have hst := flags_set hi fs[i].goes.1
  have hA : (flagsOf (fs.take i)).length = 0 + i * 4 := by rw [flags_take_len (Nat.le_of_lt hi)]; omega
  have hself : fs.set i fs[i] = fs := by simp
  generalize fs[i] = f at hsp hst hself
  have eL : flagsOf fs ++ rest = flagsOf (fs.take i) ++ f.l ++ (flagsOf (fs.drop (i + 1)) ++ rest) := by rw [hsp]; simp
  have eR : flagsOf (fs.set i f.goes.1) ++ rest = flagsOf (fs.take i) ++ f.goes.1.l ++ (flagsOf (fs.drop (i + 1)) ++ rest) := by rw [hst]; simp
  rw [eL, eR]
  generalize flagsOf (fs.take i) = A at hA
  generalize flagsOf (fs.drop (i + 1)) ++ rest = B
  have hu : (A ++ f.l ++ B)[0 + i * 4]? = some (.bool f.used) := get_mid hA (M := f.l) (o := 0) (by simp [Fl.l])
  have hr : (A ++ f.l ++ B)[0 + i * 4 + 2]? = some (.bool f.ref) := get_mid hA (M := f.l) (o := 2) (by simp [Fl.l])
  have hw : splice? (A ++ f.l ++ B) (0 + i * 4 + 2) [.bool false] = some (A ++ (Fl.mk f.used f.dirty false f.pins).l ++ B) := splice_mid hA (M := f.l) (o := 2) rfl
  have hfree := Free_spec f A B bo (0 + i * 4) 55 hA
  refine Ctr.enter (n := 28) [.tmp 3] [(0, _), (1, _)] Try.func106 rfl rfl rfl (lb rfl) Try.call106 ⟨rfl, rfl, trivial⟩ ?_
  intro cx fin fin0
  refine aG ?_
  repeat (first | refine gw ?_ | refine gN fun _ => ?_ | refine gB fun _ => ?_ | fail)
  refine aV (OpVal.ixSl tab_ok rfl rfl rfl rfl rfl hi) ?_
  refine aV (OpVal.load tab_ok rfl (at_own 0 rfl) hu) ?_
  by_cases h1 : f.used = false
  · refine aT ?_ (hb := by exact gd h1)
    refine W.ret (fin _ _ (FinOk.first 1 (.tmp rfl .nil) rfl ?_))
    have : f.goes = (f, true) := by unfold Fl.goes; rw [if_pos h1]
    rw [this]
    exact ⟨rfl, rfl⟩
  · refine aF ?_ (hb := by simpa using h1)
    refine aC (o := hfree) (h := ?_)
    rintro _ _ ⟨rfl, rfl⟩
    refine aG ?_
    by_cases h2 : f.pins = 0
    · refine aF ?_ (hb := by exact gd h2)
      refine aV (OpVal.load tab_ok rfl (at_own 0 rfl) hr) ?_
      refine W.store tab_ok rfl Upd.here rfl rfl rfl rfl rfl hw (W.step tab_ok rfl rfl ?_)
      refine W.ret (fin _ _ (FinOk.first 1 (.tmp rfl .nil) rfl ?_))
      have : f.goes = (Fl.mk f.used f.dirty false f.pins, !f.ref) := by unfold Fl.goes; rw [if_neg h1, if_pos h2]
      rw [this]
      exact ⟨rfl, rfl⟩
    · refine aT ?_ (hb := by exact gd h2)
      refine W.ret (fin _ _ (FinOk.first 1 (.tmp rfl .nil) rfl ?_))
      have : f.goes = (f, false) := by unfold Fl.goes; rw [if_neg h1, if_neg h2]
      rw [this]
      exact ⟨rfl, rfl⟩
end Go.Proofs.Ytgipjpiiomgjjaa
