/-
  Plans: the layer's example; the laws' contracts PlanTexts, PlanSteps, PlanParts.
-/
import Derived.Test.YtgipjpiiomgjjaaDoorLc
namespace Go.Proofs.YtgipjpiiomgjjaaDoor
open Go Go.Sl Go.IntWalk
set_option maxHeartbeats 4000000
set_option maxRecDepth 20000
theorem Itoa_small (i : Nat) (hi : i < 100) : Ctr Tryd.prog 21 [.int .i64 (i : Int)] [] [] (fun v L' => v = S8 (Lib.itoa (i : Int)) ∧ L' = []) := by
  refine Ctr.lib Tryd.call21 fun w _ => (Tryd.strconv_Itoa_small i hi w).mono ?_
  rintro e w' ⟨rfl, rfl⟩
  exact ⟨by rw [Lib.itoa_nonneg], 0, #[], by simp [World.drewN]⟩
def pow10Ro (e : TypeId) (fr : Nat × Nat) : HL := [(0, .cells (Lib.pow10Tab.map fun z => Value.int .u64 z).toArray e fr)]
theorem Itoa_spec (n : Int) (hn : i64s n) (e : TypeId) (fr : Nat × Nat) : Ctr Tryd.prog 21 [.int .i64 n] [] (pow10Ro e fr) (fun v L' => v = S8 (Lib.itoa n) ∧ L' = []) :=
  Ctr.lib Tryd.call21 fun w h => Tryd.strconv_Itoa n hn.1 hn.2 w (tabIs_of_ro (by kernel_rfl) (h _ (List.mem_singleton.2 rfl)))
theorem itoa_d (d : Nat) (h : d < 10) : Lib.itoa (d : Int) = [UInt8.ofNat (48 + d)] := by rw [Lib.itoa_nonneg, Lib.decDigits_one h]
theorem own_io {xs : List Io} {t b cap n : Nat} {l : List Value} (hn : n = xs.length) (h : Own 3 t (ios xs) (some ⟨b, 0, none⟩) n cap [(b, .cells l.toArray t (0, 0))]) {i : Nat} (hi : i < xs.length) : seg? l (0 + i * 3) 3 = some (io3 xs[i]) := by
  subst hn
  have hp : 0 < xs.length := by omega
  obtain ⟨b', l', h1, h2, h3, h4, h5⟩ := h.some hp
  simp only [List.cons.injEq, Prod.mk.injEq, Obj.cells.injEq, and_true] at h2
  have hll : l = l' := by simpa using h2.2
  subst hll
  have hm : xs.length * 3 ≤ cap * 3 := Nat.mul_le_mul_right 3 h3
  exact io_at (by omega) (by rw [List.drop_zero]; exact h5) hi
theorem lives_spec : Ctr Tryd.prog 11 [] [] [] (fun v L' => v = .bool true ∧ L' = []) := by
  have hF : Ctr Tryd.prog 16 [.int .i64 3, .bool true, .int .i64 1] [] [] (fun v L' => ∃ a cap H, v = .slice a 4 cap ∧ L' = [H] ∧ Own 3 25 (ios [(2, 1, 0), (2, 1, 1), (1, 3, 0), (1, 3, 1)]) a 4 cap H) := PFetch_spec 3 1 true
  have i0 := itoa_d 0 (by decide)
  have i1 := itoa_d 1 (by decide)
  have i3 := itoa_d 3 (by decide)
  have T1 := Text_spec (2, 1, 0) ⟨⟨by decide, by decide⟩, ⟨by decide, by decide⟩, ⟨by decide, by decide⟩⟩ [] (Itoa_small 1 (by decide)) (Itoa_small 0 (by decide))
  have T2 := Text_spec (2, 1, 1) ⟨⟨by decide, by decide⟩, ⟨by decide, by decide⟩, ⟨by decide, by decide⟩⟩ [] (Itoa_small 1 (by decide)) (Itoa_small 1 (by decide))
  have T3 := Text_spec (1, 3, 0) ⟨⟨by decide, by decide⟩, ⟨by decide, by decide⟩, ⟨by decide, by decide⟩⟩ [] (Itoa_small 3 (by decide)) (Itoa_small 0 (by decide))
  have T4 := Text_spec (1, 3, 1) ⟨⟨by decide, by decide⟩, ⟨by decide, by decide⟩, ⟨by decide, by decide⟩⟩ [] (Itoa_small 3 (by decide)) (Itoa_small 1 (by decide))
  have e1 : ioText (2, 1, 0) = [115, 116, 111, 114, 101, 32, 49, 32, 48] := by show [115, 116, 111, 114, 101] ++ ([32] ++ Lib.itoa ((1 : Nat) : Int) ++ [32] ++ Lib.itoa ((0 : Nat) : Int)) = _; rw [i1, i0]; rfl
  have e2 : ioText (2, 1, 1) = [115, 116, 111, 114, 101, 32, 49, 32, 49] := by show [115, 116, 111, 114, 101] ++ ([32] ++ Lib.itoa ((1 : Nat) : Int) ++ [32] ++ Lib.itoa ((1 : Nat) : Int)) = _; rw [i1]; rfl
  have e3 : ioText (1, 3, 0) = [108, 111, 97, 100, 32, 51, 32, 48] := by show [108, 111, 97, 100] ++ ([32] ++ Lib.itoa ((3 : Nat) : Int) ++ [32] ++ Lib.itoa ((0 : Nat) : Int)) = _; rw [i3, i0]; rfl
  have e4 : ioText (1, 3, 1) = [108, 111, 97, 100, 32, 51, 32, 49] := by show [108, 111, 97, 100] ++ ([32] ++ Lib.itoa ((3 : Nat) : Int) ++ [32] ++ Lib.itoa ((1 : Nat) : Int)) = _; rw [i3, i1]; rfl
  rw [e1] at T1
  rw [e2] at T2
  rw [e3] at T3
  rw [e4] at T4
  refine Ctr.enter (n := 32) [.tmp 0] [] Tryd.func11 rfl rfl rfl (lb rfl) Tryd.call11 trivial ?_
  intro cx fin fin0
  refine aG ?_
  refine aC (o := hF) (h := ?_)
  rintro _ _ ⟨a, cap, H, rfl, rfl, ho⟩
  refine aG ?_
  obtain ⟨b, l, rfl, rfl, -, -, -⟩ := ho.some (by decide)
  have s0 := own_io rfl ho (i := 0) (by decide)
  have s1 := own_io rfl ho (i := 1) (by decide)
  have s2 := own_io rfl ho (i := 2) (by decide)
  have s3 := own_io rfl ho (i := 3) (by decide)
  repeat (first | refine aL ?_ | refine aS ?_ | (refine aN ?_; intro _; refine aG ?_) | (refine aB ?_; intro _; refine aG ?_) | (refine W.isGuard ?_; first | refine aGo ?_ | refine aSk ?_ | refine aUn ?_) | (refine W.isPick ?_; first | refine aPT ?_ | refine aPF ?_) | (refine W.isBin ?_; first | refine aV (OpVal.neBool tab_ok rfl rfl rfl) ?_ | refine aV (OpVal.eqBool tab_ok rfl rfl rfl) ?_ | refine aV (OpVal.eqNil tab_ok rfl rfl rfl) ?_ | refine aV (OpVal.neNil tab_ok rfl rfl rfl) ?_ | refine aV (OpVal.add rfl rfl (i64_in _ (by omega))) ?_ | refine aV (OpVal.sub rfl rfl (i64_in _ (by omega))) ?_) | (refine W.isCond ?_; first | refine aT ?_ | refine aF ?_) | fail)
  refine aV (OpVal.ixSl tab_ok rfl rfl rfl rfl rfl (by decide)) ?_
  refine aV (OpVal.loadN ty_25.1 ty_25.2 rfl (at_own 0 rfl) s0) ?_
  refine aC (o := T1) (h := ?_)
  rintro _ _ ⟨rfl, rfl⟩
  refine aG ?_
  refine aV (OpVal.eqS (b := [115, 116, 111, 114, 101, 32, 49, 32, 48]) rfl rfl) ?_
  repeat (first | refine aL ?_ | refine aS ?_ | (refine aN ?_; intro _; refine aG ?_) | (refine aB ?_; intro _; refine aG ?_) | (refine W.isGuard ?_; first | refine aGo ?_ | refine aSk ?_ | refine aUn ?_) | (refine W.isPick ?_; first | refine aPT ?_ | refine aPF ?_) | (refine W.isBin ?_; first | refine aV (OpVal.neBool tab_ok rfl rfl rfl) ?_ | refine aV (OpVal.eqBool tab_ok rfl rfl rfl) ?_ | refine aV (OpVal.eqNil tab_ok rfl rfl rfl) ?_ | refine aV (OpVal.neNil tab_ok rfl rfl rfl) ?_ | refine aV (OpVal.add rfl rfl (i64_in _ (by omega))) ?_ | refine aV (OpVal.sub rfl rfl (i64_in _ (by omega))) ?_) | (refine W.isCond ?_; first | refine aT ?_ | refine aF ?_) | fail)
  refine aV (OpVal.ixSl tab_ok rfl rfl rfl rfl rfl (by decide)) ?_
  repeat (first | refine aL ?_ | refine aS ?_ | (refine aN ?_; intro _; refine aG ?_) | (refine aB ?_; intro _; refine aG ?_) | (refine W.isGuard ?_; first | refine aGo ?_ | refine aSk ?_ | refine aUn ?_) | (refine W.isPick ?_; first | refine aPT ?_ | refine aPF ?_) | (refine W.isBin ?_; first | refine aV (OpVal.neBool tab_ok rfl rfl rfl) ?_ | refine aV (OpVal.eqBool tab_ok rfl rfl rfl) ?_ | refine aV (OpVal.eqNil tab_ok rfl rfl rfl) ?_ | refine aV (OpVal.neNil tab_ok rfl rfl rfl) ?_ | refine aV (OpVal.add rfl rfl (i64_in _ (by omega))) ?_ | refine aV (OpVal.sub rfl rfl (i64_in _ (by omega))) ?_) | (refine W.isCond ?_; first | refine aT ?_ | refine aF ?_) | fail)
  refine aV (OpVal.loadN ty_25.1 ty_25.2 rfl (at_own 0 rfl) s1) ?_
  repeat (first | refine aL ?_ | refine aS ?_ | (refine aN ?_; intro _; refine aG ?_) | (refine aB ?_; intro _; refine aG ?_) | (refine W.isGuard ?_; first | refine aGo ?_ | refine aSk ?_ | refine aUn ?_) | (refine W.isPick ?_; first | refine aPT ?_ | refine aPF ?_) | (refine W.isBin ?_; first | refine aV (OpVal.neBool tab_ok rfl rfl rfl) ?_ | refine aV (OpVal.eqBool tab_ok rfl rfl rfl) ?_ | refine aV (OpVal.eqNil tab_ok rfl rfl rfl) ?_ | refine aV (OpVal.neNil tab_ok rfl rfl rfl) ?_ | refine aV (OpVal.add rfl rfl (i64_in _ (by omega))) ?_ | refine aV (OpVal.sub rfl rfl (i64_in _ (by omega))) ?_) | (refine W.isCond ?_; first | refine aT ?_ | refine aF ?_) | fail)
  refine aC (o := T2) (h := ?_)
  rintro _ _ ⟨rfl, rfl⟩
  refine aG ?_
  repeat (first | refine aL ?_ | refine aS ?_ | (refine aN ?_; intro _; refine aG ?_) | (refine aB ?_; intro _; refine aG ?_) | (refine W.isGuard ?_; first | refine aGo ?_ | refine aSk ?_ | refine aUn ?_) | (refine W.isPick ?_; first | refine aPT ?_ | refine aPF ?_) | (refine W.isBin ?_; first | refine aV (OpVal.neBool tab_ok rfl rfl rfl) ?_ | refine aV (OpVal.eqBool tab_ok rfl rfl rfl) ?_ | refine aV (OpVal.eqNil tab_ok rfl rfl rfl) ?_ | refine aV (OpVal.neNil tab_ok rfl rfl rfl) ?_ | refine aV (OpVal.add rfl rfl (i64_in _ (by omega))) ?_ | refine aV (OpVal.sub rfl rfl (i64_in _ (by omega))) ?_) | (refine W.isCond ?_; first | refine aT ?_ | refine aF ?_) | fail)
  refine aV (OpVal.eqS (b := [115, 116, 111, 114, 101, 32, 49, 32, 49]) rfl rfl) ?_
  repeat (first | refine aL ?_ | refine aS ?_ | (refine aN ?_; intro _; refine aG ?_) | (refine aB ?_; intro _; refine aG ?_) | (refine W.isGuard ?_; first | refine aGo ?_ | refine aSk ?_ | refine aUn ?_) | (refine W.isPick ?_; first | refine aPT ?_ | refine aPF ?_) | (refine W.isBin ?_; first | refine aV (OpVal.neBool tab_ok rfl rfl rfl) ?_ | refine aV (OpVal.eqBool tab_ok rfl rfl rfl) ?_ | refine aV (OpVal.eqNil tab_ok rfl rfl rfl) ?_ | refine aV (OpVal.neNil tab_ok rfl rfl rfl) ?_ | refine aV (OpVal.add rfl rfl (i64_in _ (by omega))) ?_ | refine aV (OpVal.sub rfl rfl (i64_in _ (by omega))) ?_) | (refine W.isCond ?_; first | refine aT ?_ | refine aF ?_) | fail)
  refine aV (OpVal.ixSl tab_ok rfl rfl rfl rfl rfl (by decide)) ?_
  repeat (first | refine aL ?_ | refine aS ?_ | (refine aN ?_; intro _; refine aG ?_) | (refine aB ?_; intro _; refine aG ?_) | (refine W.isGuard ?_; first | refine aGo ?_ | refine aSk ?_ | refine aUn ?_) | (refine W.isPick ?_; first | refine aPT ?_ | refine aPF ?_) | (refine W.isBin ?_; first | refine aV (OpVal.neBool tab_ok rfl rfl rfl) ?_ | refine aV (OpVal.eqBool tab_ok rfl rfl rfl) ?_ | refine aV (OpVal.eqNil tab_ok rfl rfl rfl) ?_ | refine aV (OpVal.neNil tab_ok rfl rfl rfl) ?_ | refine aV (OpVal.add rfl rfl (i64_in _ (by omega))) ?_ | refine aV (OpVal.sub rfl rfl (i64_in _ (by omega))) ?_) | (refine W.isCond ?_; first | refine aT ?_ | refine aF ?_) | fail)
  refine aV (OpVal.loadN ty_25.1 ty_25.2 rfl (at_own 0 rfl) s2) ?_
  repeat (first | refine aL ?_ | refine aS ?_ | (refine aN ?_; intro _; refine aG ?_) | (refine aB ?_; intro _; refine aG ?_) | (refine W.isGuard ?_; first | refine aGo ?_ | refine aSk ?_ | refine aUn ?_) | (refine W.isPick ?_; first | refine aPT ?_ | refine aPF ?_) | (refine W.isBin ?_; first | refine aV (OpVal.neBool tab_ok rfl rfl rfl) ?_ | refine aV (OpVal.eqBool tab_ok rfl rfl rfl) ?_ | refine aV (OpVal.eqNil tab_ok rfl rfl rfl) ?_ | refine aV (OpVal.neNil tab_ok rfl rfl rfl) ?_ | refine aV (OpVal.add rfl rfl (i64_in _ (by omega))) ?_ | refine aV (OpVal.sub rfl rfl (i64_in _ (by omega))) ?_) | (refine W.isCond ?_; first | refine aT ?_ | refine aF ?_) | fail)
  refine aC (o := T3) (h := ?_)
  rintro _ _ ⟨rfl, rfl⟩
  refine aG ?_
  repeat (first | refine aL ?_ | refine aS ?_ | (refine aN ?_; intro _; refine aG ?_) | (refine aB ?_; intro _; refine aG ?_) | (refine W.isGuard ?_; first | refine aGo ?_ | refine aSk ?_ | refine aUn ?_) | (refine W.isPick ?_; first | refine aPT ?_ | refine aPF ?_) | (refine W.isBin ?_; first | refine aV (OpVal.neBool tab_ok rfl rfl rfl) ?_ | refine aV (OpVal.eqBool tab_ok rfl rfl rfl) ?_ | refine aV (OpVal.eqNil tab_ok rfl rfl rfl) ?_ | refine aV (OpVal.neNil tab_ok rfl rfl rfl) ?_ | refine aV (OpVal.add rfl rfl (i64_in _ (by omega))) ?_ | refine aV (OpVal.sub rfl rfl (i64_in _ (by omega))) ?_) | (refine W.isCond ?_; first | refine aT ?_ | refine aF ?_) | fail)
  refine aV (OpVal.eqS (b := [108, 111, 97, 100, 32, 51, 32, 48]) rfl rfl) ?_
  repeat (first | refine aL ?_ | refine aS ?_ | (refine aN ?_; intro _; refine aG ?_) | (refine aB ?_; intro _; refine aG ?_) | (refine W.isGuard ?_; first | refine aGo ?_ | refine aSk ?_ | refine aUn ?_) | (refine W.isPick ?_; first | refine aPT ?_ | refine aPF ?_) | (refine W.isBin ?_; first | refine aV (OpVal.neBool tab_ok rfl rfl rfl) ?_ | refine aV (OpVal.eqBool tab_ok rfl rfl rfl) ?_ | refine aV (OpVal.eqNil tab_ok rfl rfl rfl) ?_ | refine aV (OpVal.neNil tab_ok rfl rfl rfl) ?_ | refine aV (OpVal.add rfl rfl (i64_in _ (by omega))) ?_ | refine aV (OpVal.sub rfl rfl (i64_in _ (by omega))) ?_) | (refine W.isCond ?_; first | refine aT ?_ | refine aF ?_) | fail)
  refine aV (OpVal.ixSl tab_ok rfl rfl rfl rfl rfl (by decide)) ?_
  repeat (first | refine aL ?_ | refine aS ?_ | (refine aN ?_; intro _; refine aG ?_) | (refine aB ?_; intro _; refine aG ?_) | (refine W.isGuard ?_; first | refine aGo ?_ | refine aSk ?_ | refine aUn ?_) | (refine W.isPick ?_; first | refine aPT ?_ | refine aPF ?_) | (refine W.isBin ?_; first | refine aV (OpVal.neBool tab_ok rfl rfl rfl) ?_ | refine aV (OpVal.eqBool tab_ok rfl rfl rfl) ?_ | refine aV (OpVal.eqNil tab_ok rfl rfl rfl) ?_ | refine aV (OpVal.neNil tab_ok rfl rfl rfl) ?_ | refine aV (OpVal.add rfl rfl (i64_in _ (by omega))) ?_ | refine aV (OpVal.sub rfl rfl (i64_in _ (by omega))) ?_) | (refine W.isCond ?_; first | refine aT ?_ | refine aF ?_) | fail)
  refine aV (OpVal.loadN ty_25.1 ty_25.2 rfl (at_own 0 rfl) s3) ?_
  repeat (first | refine aL ?_ | refine aS ?_ | (refine aN ?_; intro _; refine aG ?_) | (refine aB ?_; intro _; refine aG ?_) | (refine W.isGuard ?_; first | refine aGo ?_ | refine aSk ?_ | refine aUn ?_) | (refine W.isPick ?_; first | refine aPT ?_ | refine aPF ?_) | (refine W.isBin ?_; first | refine aV (OpVal.neBool tab_ok rfl rfl rfl) ?_ | refine aV (OpVal.eqBool tab_ok rfl rfl rfl) ?_ | refine aV (OpVal.eqNil tab_ok rfl rfl rfl) ?_ | refine aV (OpVal.neNil tab_ok rfl rfl rfl) ?_ | refine aV (OpVal.add rfl rfl (i64_in _ (by omega))) ?_ | refine aV (OpVal.sub rfl rfl (i64_in _ (by omega))) ?_) | (refine W.isCond ?_; first | refine aT ?_ | refine aF ?_) | fail)
  refine aC (o := T4) (h := ?_)
  rintro _ _ ⟨rfl, rfl⟩
  refine aG ?_
  repeat (first | refine aL ?_ | refine aS ?_ | (refine aN ?_; intro _; refine aG ?_) | (refine aB ?_; intro _; refine aG ?_) | (refine W.isGuard ?_; first | refine aGo ?_ | refine aSk ?_ | refine aUn ?_) | (refine W.isPick ?_; first | refine aPT ?_ | refine aPF ?_) | (refine W.isBin ?_; first | refine aV (OpVal.neBool tab_ok rfl rfl rfl) ?_ | refine aV (OpVal.eqBool tab_ok rfl rfl rfl) ?_ | refine aV (OpVal.eqNil tab_ok rfl rfl rfl) ?_ | refine aV (OpVal.neNil tab_ok rfl rfl rfl) ?_ | refine aV (OpVal.add rfl rfl (i64_in _ (by omega))) ?_ | refine aV (OpVal.sub rfl rfl (i64_in _ (by omega))) ?_) | (refine W.isCond ?_; first | refine aT ?_ | refine aF ?_) | fail)
  refine aV (OpVal.eqS (b := [108, 111, 97, 100, 32, 51, 32, 49]) rfl rfl) ?_
  repeat (first | refine aL ?_ | refine aS ?_ | (refine aN ?_; intro _; refine aG ?_) | (refine aB ?_; intro _; refine aG ?_) | (refine W.isGuard ?_; first | refine aGo ?_ | refine aSk ?_ | refine aUn ?_) | (refine W.isPick ?_; first | refine aPT ?_ | refine aPF ?_) | (refine W.isBin ?_; first | refine aV (OpVal.neBool tab_ok rfl rfl rfl) ?_ | refine aV (OpVal.eqBool tab_ok rfl rfl rfl) ?_ | refine aV (OpVal.eqNil tab_ok rfl rfl rfl) ?_ | refine aV (OpVal.neNil tab_ok rfl rfl rfl) ?_ | refine aV (OpVal.add rfl rfl (i64_in _ (by omega))) ?_ | refine aV (OpVal.sub rfl rfl (i64_in _ (by omega))) ?_) | (refine W.isCond ?_; first | refine aT ?_ | refine aF ?_) | fail)
  refine W.ret (fin _ _ (FinOk.mk' ([]) (.tmp rfl .nil) (by repeat (first | exact Sel.nil | (apply Sel.cons; (repeat (first | exact Pick.here | apply Pick.there))))) rfl ?_))
  exact ⟨rfl, rfl⟩
theorem PlanTexts_spec (kind page k : Int) (h1 : i64s kind) (h2 : i64s page) (h3 : i64s k) (e : TypeId) (fr : Nat × Nat) :
    Ctr Tryd.prog 3 [.int .i64 kind, .int .i64 page, .int .i64 k] [] (pow10Ro e fr) (fun v L' => v = .bool true ∧ L' = []) := by
  have q := around_range kind 5 (by decide)
  have qs : i64s (around kind 5) := ⟨by omega, by omega⟩
  have A := Around_spec kind 5 h1 (by decide)
  have T1 := Text_spec (kind, page, k) ⟨h1, h2, h3⟩ _ (Itoa_spec page h2 e fr) (Itoa_spec k h3 e fr)
  have T2 := Text_spec (around kind 5, page, k) ⟨qs, h2, h3⟩ _ (Itoa_spec page h2 e fr) (Itoa_spec k h3 e fr)
  have R1 := RText_spec (kind, page, k) ⟨h1, h2, h3⟩
  have R2 := RText_spec (around kind 5, page, k) ⟨qs, h2, h3⟩
  generalize around kind 5 = small at *
  refine Ctr.enter (n := 37) [.tmp 6] [(0, _), (1, _), (2, _)] Tryd.func3 rfl rfl rfl (lb rfl) Tryd.call3 ⟨rfl, rfl, rfl, trivial⟩ ?_
  intro cx fin fin0
  refine aG ?_
  refine aC (o := A) (h := ?_)
  rintro _ _ ⟨rfl, rfl⟩
  refine aG ?_
  refine aBu (ps := [_, _, _]) ?_
  refine aC (o := T1) (h := ?_)
  rintro _ _ ⟨rfl, rfl⟩
  refine aG ?_
  refine aBu (ps := [_, _, _]) ?_
  refine aC (o := R1) (h := ?_)
  rintro _ _ ⟨rfl, rfl⟩
  refine aG ?_
  refine aV (OpVal.eqS rfl rfl) ?_
  repeat (first | refine aL ?_ | refine aS ?_ | (refine aN ?_; intro _; refine aG ?_) | (refine aB ?_; intro _; refine aG ?_) | (refine W.isGuard ?_; first | refine aGo ?_ | refine aSk ?_ | refine aUn ?_) | (refine W.isPick ?_; first | refine aPT ?_ | refine aPF ?_) | (refine W.isBin ?_; first | refine aV (OpVal.neBool tab_ok rfl rfl rfl) ?_ | refine aV (OpVal.eqBool tab_ok rfl rfl rfl) ?_ | refine aV (OpVal.eqNil tab_ok rfl rfl rfl) ?_ | refine aV (OpVal.neNil tab_ok rfl rfl rfl) ?_ | refine aV (OpVal.add rfl rfl (i64_in _ (by omega))) ?_ | refine aV (OpVal.sub rfl rfl (i64_in _ (by omega))) ?_) | (refine W.isCond ?_; first | refine aT ?_ | refine aF ?_) | fail)
  refine aBu (ps := [_, _, _]) ?_
  repeat (first | refine aL ?_ | refine aS ?_ | (refine aN ?_; intro _; refine aG ?_) | (refine aB ?_; intro _; refine aG ?_) | (refine W.isGuard ?_; first | refine aGo ?_ | refine aSk ?_ | refine aUn ?_) | (refine W.isPick ?_; first | refine aPT ?_ | refine aPF ?_) | (refine W.isBin ?_; first | refine aV (OpVal.neBool tab_ok rfl rfl rfl) ?_ | refine aV (OpVal.eqBool tab_ok rfl rfl rfl) ?_ | refine aV (OpVal.eqNil tab_ok rfl rfl rfl) ?_ | refine aV (OpVal.neNil tab_ok rfl rfl rfl) ?_ | refine aV (OpVal.add rfl rfl (i64_in _ (by omega))) ?_ | refine aV (OpVal.sub rfl rfl (i64_in _ (by omega))) ?_) | (refine W.isCond ?_; first | refine aT ?_ | refine aF ?_) | fail)
  refine aC (o := T2) (h := ?_)
  rintro _ _ ⟨rfl, rfl⟩
  refine aG ?_
  repeat (first | refine aL ?_ | refine aS ?_ | (refine aN ?_; intro _; refine aG ?_) | (refine aB ?_; intro _; refine aG ?_) | (refine W.isGuard ?_; first | refine aGo ?_ | refine aSk ?_ | refine aUn ?_) | (refine W.isPick ?_; first | refine aPT ?_ | refine aPF ?_) | (refine W.isBin ?_; first | refine aV (OpVal.neBool tab_ok rfl rfl rfl) ?_ | refine aV (OpVal.eqBool tab_ok rfl rfl rfl) ?_ | refine aV (OpVal.eqNil tab_ok rfl rfl rfl) ?_ | refine aV (OpVal.neNil tab_ok rfl rfl rfl) ?_ | refine aV (OpVal.add rfl rfl (i64_in _ (by omega))) ?_ | refine aV (OpVal.sub rfl rfl (i64_in _ (by omega))) ?_) | (refine W.isCond ?_; first | refine aT ?_ | refine aF ?_) | fail)
  refine aBu (ps := [_, _, _]) ?_
  repeat (first | refine aL ?_ | refine aS ?_ | (refine aN ?_; intro _; refine aG ?_) | (refine aB ?_; intro _; refine aG ?_) | (refine W.isGuard ?_; first | refine aGo ?_ | refine aSk ?_ | refine aUn ?_) | (refine W.isPick ?_; first | refine aPT ?_ | refine aPF ?_) | (refine W.isBin ?_; first | refine aV (OpVal.neBool tab_ok rfl rfl rfl) ?_ | refine aV (OpVal.eqBool tab_ok rfl rfl rfl) ?_ | refine aV (OpVal.eqNil tab_ok rfl rfl rfl) ?_ | refine aV (OpVal.neNil tab_ok rfl rfl rfl) ?_ | refine aV (OpVal.add rfl rfl (i64_in _ (by omega))) ?_ | refine aV (OpVal.sub rfl rfl (i64_in _ (by omega))) ?_) | (refine W.isCond ?_; first | refine aT ?_ | refine aF ?_) | fail)
  refine aC (o := R2) (h := ?_)
  rintro _ _ ⟨rfl, rfl⟩
  refine aG ?_
  repeat (first | refine aL ?_ | refine aS ?_ | (refine aN ?_; intro _; refine aG ?_) | (refine aB ?_; intro _; refine aG ?_) | (refine W.isGuard ?_; first | refine aGo ?_ | refine aSk ?_ | refine aUn ?_) | (refine W.isPick ?_; first | refine aPT ?_ | refine aPF ?_) | (refine W.isBin ?_; first | refine aV (OpVal.neBool tab_ok rfl rfl rfl) ?_ | refine aV (OpVal.eqBool tab_ok rfl rfl rfl) ?_ | refine aV (OpVal.eqNil tab_ok rfl rfl rfl) ?_ | refine aV (OpVal.neNil tab_ok rfl rfl rfl) ?_ | refine aV (OpVal.add rfl rfl (i64_in _ (by omega))) ?_ | refine aV (OpVal.sub rfl rfl (i64_in _ (by omega))) ?_) | (refine W.isCond ?_; first | refine aT ?_ | refine aF ?_) | fail)
  refine aV (OpVal.eqS rfl rfl) ?_
  repeat (first | refine aL ?_ | refine aS ?_ | (refine aN ?_; intro _; refine aG ?_) | (refine aB ?_; intro _; refine aG ?_) | (refine W.isGuard ?_; first | refine aGo ?_ | refine aSk ?_ | refine aUn ?_) | (refine W.isPick ?_; first | refine aPT ?_ | refine aPF ?_) | (refine W.isBin ?_; first | refine aV (OpVal.neBool tab_ok rfl rfl rfl) ?_ | refine aV (OpVal.eqBool tab_ok rfl rfl rfl) ?_ | refine aV (OpVal.eqNil tab_ok rfl rfl rfl) ?_ | refine aV (OpVal.neNil tab_ok rfl rfl rfl) ?_ | refine aV (OpVal.add rfl rfl (i64_in _ (by omega))) ?_ | refine aV (OpVal.sub rfl rfl (i64_in _ (by omega))) ?_) | (refine W.isCond ?_; first | refine aT ?_ | refine aF ?_) | fail)
  refine aC (o := lives_spec) (h := ?_)
  rintro _ _ ⟨rfl, rfl⟩
  refine aG ?_
  repeat (first | refine aL ?_ | refine aS ?_ | (refine aN ?_; intro _; refine aG ?_) | (refine aB ?_; intro _; refine aG ?_) | (refine W.isGuard ?_; first | refine aGo ?_ | refine aSk ?_ | refine aUn ?_) | (refine W.isPick ?_; first | refine aPT ?_ | refine aPF ?_) | (refine W.isBin ?_; first | refine aV (OpVal.neBool tab_ok rfl rfl rfl) ?_ | refine aV (OpVal.eqBool tab_ok rfl rfl rfl) ?_ | refine aV (OpVal.eqNil tab_ok rfl rfl rfl) ?_ | refine aV (OpVal.neNil tab_ok rfl rfl rfl) ?_ | refine aV (OpVal.add rfl rfl (i64_in _ (by omega))) ?_ | refine aV (OpVal.sub rfl rfl (i64_in _ (by omega))) ?_) | (refine W.isCond ?_; first | refine aT ?_ | refine aF ?_) | fail)
  refine W.ret (fin _ _ (FinOk.mk' ([]) (.tmp rfl .nil) (by repeat (first | exact Sel.nil | (apply Sel.cons; (repeat (first | exact Pick.here | apply Pick.there))))) rfl ?_))
  exact ⟨rfl, rfl⟩
theorem front_min {a : Option Addr} {cap m : Nat} {xs : List Int} {ro : HL} (h : RoSl 1 (ints xs) a xs.length ro) : RoSl 1 (ints (xs.take (min xs.length m))) a (xs.take (min xs.length m)).length ro := by
  have e : (xs.take (min xs.length m)).length = min xs.length m := by rw [List.length_take]; omega
  rw [e]
  exact RoSl.take (f := fun x => [Value.int .i64 x]) (fun _ => rfl) h _ (by omega)
theorem PlanSteps_spec (page old : Int) (dirty : Bool) (xs : List Int) (a : Option Addr) (cap : Nat) (hcap : xs.length ≤ cap) (ro : HL) (hro : RoSl 1 (ints xs) a xs.length ro) :
    Ctr Tryd.prog 5 [.int .i64 page, .int .i64 old, .bool dirty, .slice a xs.length cap] [] ro (fun v L' => v = .bool true ∧ L' = []) := by
  have hmin : (if (6 : Int) < (xs.length : Int) then (6 : Int) else (xs.length : Int)) = (((xs.take (min xs.length 6)).length : Nat) : Int) := by rw [List.length_take]; split <;> omega
  have hro2 := front_min (cap := cap) (m := 6) hro
  have hf6 : (xs.take (min xs.length 6)).length ≤ 6 := by rw [List.length_take]; omega
  have hfc : (xs.take (min xs.length 6)).length ≤ cap := by rw [List.length_take]; omega
  generalize xs.take (min xs.length 6) = few at hmin hro2 hf6 hfc
  have hS := Stores_spec few (by omega) a cap ro hro2
  have hPg := RPages_spec 2 few (by omega) a cap ro hro2
  have hFl := PFlush_spec few (by omega) a cap ro hro2
  have hRf := RFlush_spec few (by omega) a cap ro hro2
  have hpl := pages_len 2 few
  have hfl := planFlush_len few
  have hpf : (planFetch page dirty old).length ≤ 4 := by cases dirty <;> exact Nat.le_of_ble_eq_true rfl
  refine Ctr.enter (n := 49) [.tmp 8] [(0, _), (1, _), (2, _), (3, _)] Tryd.func5 rfl rfl rfl (lb rfl) Tryd.call5 ⟨rfl, rfl, rfl, rfl, trivial⟩ ?_
  intro cx fin fin0
  refine aG ?_
  refine aV (OpVal.min2 rfl rfl) ?_
  refine aV (OpVal.front tab_ok rfl rfl rfl rfl hmin hfc) ?_
  refine aC (o := (Loads_spec page)) (h := ?_)
  rintro _ _ ⟨a1, c1, H1, rfl, rfl, o1⟩
  refine aG ?_
  refine aSl (ps := [_]) ?_
  intro bt
  refine aG ?_
  refine aC (o := RPages_spec 1 [page] (by simp) (some ⟨bt, 0, none⟩) 1 [(bt, .cells #[.int .i64 page] 3 (0, 0))] (Own.roSl (Own.exact (m := 1) (cs := ints [page]) bt rfl))) (h := ?_)
  rintro _ _ ⟨a2, c2, H2, rfl, rfl, o2⟩
  refine aG ?_
  refine aC (o := same_spec (pages 1 [page]) 2 rfl (by omega) a1 a2 c1 c2 H1 H2 (Own.roSl o1) (Own.roSl o2)) (h := ?_)
  rintro _ _ ⟨rfl, rfl⟩
  refine aG ?_
  repeat (first | refine aL ?_ | refine aS ?_ | (refine aN ?_; intro _; refine aG ?_) | (refine aB ?_; intro _; refine aG ?_) | (refine W.isGuard ?_; first | refine aGo ?_ | refine aSk ?_ | refine aUn ?_) | (refine W.isPick ?_; first | refine aPT ?_ | refine aPF ?_) | (refine W.isBin ?_; first | refine aV (OpVal.neBool tab_ok rfl rfl rfl) ?_ | refine aV (OpVal.eqBool tab_ok rfl rfl rfl) ?_ | refine aV (OpVal.eqNil tab_ok rfl rfl rfl) ?_ | refine aV (OpVal.neNil tab_ok rfl rfl rfl) ?_ | refine aV (OpVal.add rfl rfl (i64_in _ (by omega))) ?_ | refine aV (OpVal.sub rfl rfl (i64_in _ (by omega))) ?_) | (refine W.isCond ?_; first | refine aT ?_ | refine aF ?_) | fail)
  refine aC (o := hS) (h := ?_)
  rintro _ _ ⟨a3, c3, H3, rfl, rfl, o3⟩
  refine aG ?_
  repeat (first | refine aL ?_ | refine aS ?_ | (refine aN ?_; intro _; refine aG ?_) | (refine aB ?_; intro _; refine aG ?_) | (refine W.isGuard ?_; first | refine aGo ?_ | refine aSk ?_ | refine aUn ?_) | (refine W.isPick ?_; first | refine aPT ?_ | refine aPF ?_) | (refine W.isBin ?_; first | refine aV (OpVal.neBool tab_ok rfl rfl rfl) ?_ | refine aV (OpVal.eqBool tab_ok rfl rfl rfl) ?_ | refine aV (OpVal.eqNil tab_ok rfl rfl rfl) ?_ | refine aV (OpVal.neNil tab_ok rfl rfl rfl) ?_ | refine aV (OpVal.add rfl rfl (i64_in _ (by omega))) ?_ | refine aV (OpVal.sub rfl rfl (i64_in _ (by omega))) ?_) | (refine W.isCond ?_; first | refine aT ?_ | refine aF ?_) | fail)
  refine aC (o := hPg) (h := ?_)
  rintro _ _ ⟨a4, c4, H4, rfl, rfl, o4⟩
  refine aG ?_
  repeat (first | refine aL ?_ | refine aS ?_ | (refine aN ?_; intro _; refine aG ?_) | (refine aB ?_; intro _; refine aG ?_) | (refine W.isGuard ?_; first | refine aGo ?_ | refine aSk ?_ | refine aUn ?_) | (refine W.isPick ?_; first | refine aPT ?_ | refine aPF ?_) | (refine W.isBin ?_; first | refine aV (OpVal.neBool tab_ok rfl rfl rfl) ?_ | refine aV (OpVal.eqBool tab_ok rfl rfl rfl) ?_ | refine aV (OpVal.eqNil tab_ok rfl rfl rfl) ?_ | refine aV (OpVal.neNil tab_ok rfl rfl rfl) ?_ | refine aV (OpVal.add rfl rfl (i64_in _ (by omega))) ?_ | refine aV (OpVal.sub rfl rfl (i64_in _ (by omega))) ?_) | (refine W.isCond ?_; first | refine aT ?_ | refine aF ?_) | fail)
  refine aC (o := same_spec (pages 2 few) (2 * few.length) hpl (by omega) a3 a4 c3 c4 H3 H4 (Own.roSl o3) (Own.roSl o4)) (h := ?_)
  rintro _ _ ⟨rfl, rfl⟩
  refine aG ?_
  repeat (first | refine aL ?_ | refine aS ?_ | (refine aN ?_; intro _; refine aG ?_) | (refine aB ?_; intro _; refine aG ?_) | (refine W.isGuard ?_; first | refine aGo ?_ | refine aSk ?_ | refine aUn ?_) | (refine W.isPick ?_; first | refine aPT ?_ | refine aPF ?_) | (refine W.isBin ?_; first | refine aV (OpVal.neBool tab_ok rfl rfl rfl) ?_ | refine aV (OpVal.eqBool tab_ok rfl rfl rfl) ?_ | refine aV (OpVal.eqNil tab_ok rfl rfl rfl) ?_ | refine aV (OpVal.neNil tab_ok rfl rfl rfl) ?_ | refine aV (OpVal.add rfl rfl (i64_in _ (by omega))) ?_ | refine aV (OpVal.sub rfl rfl (i64_in _ (by omega))) ?_) | (refine W.isCond ?_; first | refine aT ?_ | refine aF ?_) | fail)
  refine aC (o := PFetch_spec page old dirty) (h := ?_)
  rintro _ _ ⟨a5, c5, H5, rfl, rfl, o5⟩
  refine aG ?_
  repeat (first | refine aL ?_ | refine aS ?_ | (refine aN ?_; intro _; refine aG ?_) | (refine aB ?_; intro _; refine aG ?_) | (refine W.isGuard ?_; first | refine aGo ?_ | refine aSk ?_ | refine aUn ?_) | (refine W.isPick ?_; first | refine aPT ?_ | refine aPF ?_) | (refine W.isBin ?_; first | refine aV (OpVal.neBool tab_ok rfl rfl rfl) ?_ | refine aV (OpVal.eqBool tab_ok rfl rfl rfl) ?_ | refine aV (OpVal.eqNil tab_ok rfl rfl rfl) ?_ | refine aV (OpVal.neNil tab_ok rfl rfl rfl) ?_ | refine aV (OpVal.add rfl rfl (i64_in _ (by omega))) ?_ | refine aV (OpVal.sub rfl rfl (i64_in _ (by omega))) ?_) | (refine W.isCond ?_; first | refine aT ?_ | refine aF ?_) | fail)
  refine aC (o := RFetch_spec page old dirty) (h := ?_)
  rintro _ _ ⟨a6, c6, H6, rfl, rfl, o6⟩
  refine aG ?_
  repeat (first | refine aL ?_ | refine aS ?_ | (refine aN ?_; intro _; refine aG ?_) | (refine aB ?_; intro _; refine aG ?_) | (refine W.isGuard ?_; first | refine aGo ?_ | refine aSk ?_ | refine aUn ?_) | (refine W.isPick ?_; first | refine aPT ?_ | refine aPF ?_) | (refine W.isBin ?_; first | refine aV (OpVal.neBool tab_ok rfl rfl rfl) ?_ | refine aV (OpVal.eqBool tab_ok rfl rfl rfl) ?_ | refine aV (OpVal.eqNil tab_ok rfl rfl rfl) ?_ | refine aV (OpVal.neNil tab_ok rfl rfl rfl) ?_ | refine aV (OpVal.add rfl rfl (i64_in _ (by omega))) ?_ | refine aV (OpVal.sub rfl rfl (i64_in _ (by omega))) ?_) | (refine W.isCond ?_; first | refine aT ?_ | refine aF ?_) | fail)
  refine aC (o := same_spec (planFetch page dirty old) _ rfl (by omega) a5 a6 c5 c6 H5 H6 (Own.roSl o5) (Own.roSl o6)) (h := ?_)
  rintro _ _ ⟨rfl, rfl⟩
  refine aG ?_
  repeat (first | refine aL ?_ | refine aS ?_ | (refine aN ?_; intro _; refine aG ?_) | (refine aB ?_; intro _; refine aG ?_) | (refine W.isGuard ?_; first | refine aGo ?_ | refine aSk ?_ | refine aUn ?_) | (refine W.isPick ?_; first | refine aPT ?_ | refine aPF ?_) | (refine W.isBin ?_; first | refine aV (OpVal.neBool tab_ok rfl rfl rfl) ?_ | refine aV (OpVal.eqBool tab_ok rfl rfl rfl) ?_ | refine aV (OpVal.eqNil tab_ok rfl rfl rfl) ?_ | refine aV (OpVal.neNil tab_ok rfl rfl rfl) ?_ | refine aV (OpVal.add rfl rfl (i64_in _ (by omega))) ?_ | refine aV (OpVal.sub rfl rfl (i64_in _ (by omega))) ?_) | (refine W.isCond ?_; first | refine aT ?_ | refine aF ?_) | fail)
  refine aC (o := hFl) (h := ?_)
  rintro _ _ ⟨a7, c7, H7, rfl, rfl, o7⟩
  refine aG ?_
  repeat (first | refine aL ?_ | refine aS ?_ | (refine aN ?_; intro _; refine aG ?_) | (refine aB ?_; intro _; refine aG ?_) | (refine W.isGuard ?_; first | refine aGo ?_ | refine aSk ?_ | refine aUn ?_) | (refine W.isPick ?_; first | refine aPT ?_ | refine aPF ?_) | (refine W.isBin ?_; first | refine aV (OpVal.neBool tab_ok rfl rfl rfl) ?_ | refine aV (OpVal.eqBool tab_ok rfl rfl rfl) ?_ | refine aV (OpVal.eqNil tab_ok rfl rfl rfl) ?_ | refine aV (OpVal.neNil tab_ok rfl rfl rfl) ?_ | refine aV (OpVal.add rfl rfl (i64_in _ (by omega))) ?_ | refine aV (OpVal.sub rfl rfl (i64_in _ (by omega))) ?_) | (refine W.isCond ?_; first | refine aT ?_ | refine aF ?_) | fail)
  refine aC (o := hRf) (h := ?_)
  rintro _ _ ⟨a8, c8, H8, rfl, rfl, o8⟩
  refine aG ?_
  repeat (first | refine aL ?_ | refine aS ?_ | (refine aN ?_; intro _; refine aG ?_) | (refine aB ?_; intro _; refine aG ?_) | (refine W.isGuard ?_; first | refine aGo ?_ | refine aSk ?_ | refine aUn ?_) | (refine W.isPick ?_; first | refine aPT ?_ | refine aPF ?_) | (refine W.isBin ?_; first | refine aV (OpVal.neBool tab_ok rfl rfl rfl) ?_ | refine aV (OpVal.eqBool tab_ok rfl rfl rfl) ?_ | refine aV (OpVal.eqNil tab_ok rfl rfl rfl) ?_ | refine aV (OpVal.neNil tab_ok rfl rfl rfl) ?_ | refine aV (OpVal.add rfl rfl (i64_in _ (by omega))) ?_ | refine aV (OpVal.sub rfl rfl (i64_in _ (by omega))) ?_) | (refine W.isCond ?_; first | refine aT ?_ | refine aF ?_) | fail)
  refine aC (o := same_spec (planFlush few) _ rfl (by omega) a7 a8 c7 c8 H7 H8 (Own.roSl o7) (Own.roSl o8)) (h := ?_)
  rintro _ _ ⟨rfl, rfl⟩
  refine aG ?_
  repeat (first | refine aL ?_ | refine aS ?_ | (refine aN ?_; intro _; refine aG ?_) | (refine aB ?_; intro _; refine aG ?_) | (refine W.isGuard ?_; first | refine aGo ?_ | refine aSk ?_ | refine aUn ?_) | (refine W.isPick ?_; first | refine aPT ?_ | refine aPF ?_) | (refine W.isBin ?_; first | refine aV (OpVal.neBool tab_ok rfl rfl rfl) ?_ | refine aV (OpVal.eqBool tab_ok rfl rfl rfl) ?_ | refine aV (OpVal.eqNil tab_ok rfl rfl rfl) ?_ | refine aV (OpVal.neNil tab_ok rfl rfl rfl) ?_ | refine aV (OpVal.add rfl rfl (i64_in _ (by omega))) ?_ | refine aV (OpVal.sub rfl rfl (i64_in _ (by omega))) ?_) | (refine W.isCond ?_; first | refine aT ?_ | refine aF ?_) | fail)
  refine aC (o := lives_spec) (h := ?_)
  rintro _ _ ⟨rfl, rfl⟩
  refine aG ?_
  repeat (first | refine aL ?_ | refine aS ?_ | (refine aN ?_; intro _; refine aG ?_) | (refine aB ?_; intro _; refine aG ?_) | (refine W.isGuard ?_; first | refine aGo ?_ | refine aSk ?_ | refine aUn ?_) | (refine W.isPick ?_; first | refine aPT ?_ | refine aPF ?_) | (refine W.isBin ?_; first | refine aV (OpVal.neBool tab_ok rfl rfl rfl) ?_ | refine aV (OpVal.eqBool tab_ok rfl rfl rfl) ?_ | refine aV (OpVal.eqNil tab_ok rfl rfl rfl) ?_ | refine aV (OpVal.neNil tab_ok rfl rfl rfl) ?_ | refine aV (OpVal.add rfl rfl (i64_in _ (by omega))) ?_ | refine aV (OpVal.sub rfl rfl (i64_in _ (by omega))) ?_) | (refine W.isCond ?_; first | refine aT ?_ | refine aF ?_) | fail)
  refine W.ret (fin _ _ (FinOk.mk' ([]) (.tmp rfl .nil) (by repeat (first | exact Sel.nil | (apply Sel.cons; (repeat (first | exact Pick.here | apply Pick.there))))) rfl ?_))
  exact ⟨rfl, rfl⟩
end Go.Proofs.YtgipjpiiomgjjaaDoor
