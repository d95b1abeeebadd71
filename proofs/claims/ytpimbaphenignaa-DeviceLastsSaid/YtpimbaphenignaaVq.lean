/-
  What is left of a row of choices; two lists that are the same.
-/
import Derived.Test.YtpimbaphenignaaVp
namespace Go.Proofs.Ytpimbaphenignaa
open Go Go.Sl Go.IntWalk
set_option maxHeartbeats 8000000
set_option maxRecDepth 20000
set_option linter.unusedVariables false
theorem SameInts_spec (xs : List Int) (hx : xs.length ≤ 1024) (a a' : Option Addr) (c c' : Nat) (r r' : HL) (h : RoSl 1 (ints xs) a xs.length r) (h' : RoSl 1 (ints xs) a' xs.length r') :
    Ctr Try.prog 48 [.slice a xs.length c, .slice a' xs.length c'] [] (r ++ r') (fun v L' => v = .bool true ∧ L' = []) := by
  refine Ctr.enter (n := 26) [.tmp 4] [(0, _), (1, _)] Try.func48 rfl rfl rfl (lb rfl) Try.call48 ⟨rfl, rfl, trivial⟩ ?_
  intro cx fin fin0
  refine aG ?_
  repeat (first | refine gx ?_ | refine gN fun _ => ?_ | refine gB fun _ => ?_ | fail)
  refine aLp (fun q ρ1 L1 => ∃ (j : Nat), j ≤ xs.length ∧ q = xs.length - j ∧ ρ1 = [(5, .int .i64 (j : Int)), (0, .slice a xs.length c), (1, .slice a' xs.length c')] ∧ L1 = []) (o := ⟨0, Nat.zero_le _, rfl, rfl, rfl⟩) (h := ?_)
  rintro q ρ1 L1 ⟨j, hj, rfl, rfl, rfl⟩
  refine aG ?_
  by_cases hlt : (j : Int) < (xs.length : Int)
  · have hjl : j < xs.length := by omega
    obtain ⟨bx, ox, lx, ex, frx, rfl, rfl, _, hld⟩ := RoSl.at (f := fun x : Int => [Value.int .i64 x]) (m := 1) (fun _ => rfl) h hjl
    obtain ⟨bz, oy, ly, ey, fry, rfl, rfl, _, hld'⟩ := RoSl.at (f := fun x : Int => [Value.int .i64 x]) (m := 1) (fun _ => rfl) h' hjl
    have l0 : lx[ox + j * 1]? = some (.int .i64 xs[j]) := hld 0 (by decide)
    have l1 : ly[oy + j * 1]? = some (.int .i64 xs[j]) := hld' 0 (by decide)
    have hne : ¬ xs[j] ≠ xs[j] := fun h => h rfl
    repeat (first | refine gh hlt ?_ | refine gN fun _ => ?_ | refine gB fun _ => ?_ | fail)
    refine W.draw follows (by decide +kernel) (zG ?_)
    repeat (first | refine zL ?_ | (first | refine zGo ?_ | refine zSk ?_ | refine zUn ?_ | fail) | (first | refine zPT ?_ | refine zPF ?_ | fail) | refine zV (OpVal.add rfl rfl (i64_in _ (by omega))) ?_ | refine zV (OpVal.sub rfl rfl (i64_in _ (by omega))) ?_ | refine zV (OpVal.neBool tab_ok rfl rfl rfl) ?_ | refine zV (OpVal.eqBool tab_ok rfl rfl rfl) ?_ | refine zV (OpVal.eqNil tab_ok rfl rfl rfl) ?_ | refine zV (OpVal.neNil tab_ok rfl rfl rfl) ?_ | fail)
    refine zV (OpVal.ixI tab_ok rfl rfl rfl rfl rfl hjl) ?_
    refine zV (OpVal.load tab_ok rfl (show At _ _ bx (.cells lx.toArray ex frx) from .inr (by simp)) l0) ?_
    repeat (first | refine zL ?_ | (first | refine zGo ?_ | refine zSk ?_ | refine zUn ?_ | fail) | (first | refine zPT ?_ | refine zPF ?_ | fail) | refine zV (OpVal.add rfl rfl (i64_in _ (by omega))) ?_ | refine zV (OpVal.sub rfl rfl (i64_in _ (by omega))) ?_ | refine zV (OpVal.neBool tab_ok rfl rfl rfl) ?_ | refine zV (OpVal.eqBool tab_ok rfl rfl rfl) ?_ | refine zV (OpVal.eqNil tab_ok rfl rfl rfl) ?_ | refine zV (OpVal.neNil tab_ok rfl rfl rfl) ?_ | fail)
    refine zV (OpVal.ixI tab_ok rfl rfl rfl rfl rfl hjl) ?_
    refine zV (OpVal.load tab_ok rfl (show At _ _ bz (.cells ly.toArray ey fry) from .inr (by simp)) l1) ?_
    repeat (first | refine zL ?_ | (first | refine zGo ?_ | refine zSk ?_ | refine zUn ?_ | fail) | (first | refine zPT ?_ | refine zPF ?_ | fail) | refine zV (OpVal.add rfl rfl (i64_in _ (by omega))) ?_ | refine zV (OpVal.sub rfl rfl (i64_in _ (by omega))) ?_ | refine zV (OpVal.neBool tab_ok rfl rfl rfl) ?_ | refine zV (OpVal.eqBool tab_ok rfl rfl rfl) ?_ | refine zV (OpVal.eqNil tab_ok rfl rfl rfl) ?_ | refine zV (OpVal.neNil tab_ok rfl rfl rfl) ?_ | fail)
    refine WZ.nil (aG ?_)
    repeat (first | refine gh hne ?_ | refine gN fun _ => ?_ | refine gB fun _ => ?_ | fail)
    refine aR (o := ⟨xs.length - (j + 1), by omega, j + 1, by omega, rfl, rfl, rfl⟩)
  · have hjn : j = xs.length := by omega
    repeat (first | refine gh hlt ?_ | refine gN fun _ => ?_ | refine gB fun _ => ?_ | fail)
    refine W.ret (fin _ _ (FinOk.mk' ([]) (.tmp rfl .nil) (by repeat (first | exact Sel.nil | (apply Sel.cons; (repeat (first | exact Pick.here | apply Pick.there))))) rfl ?_))
    exact ⟨rfl, rfl⟩
theorem Same_spec (xs : List Bool) (hx : xs.length ≤ 4294967296) (a a' : Option Addr) (c c' : Nat) (r r' : HL) (h : RoSl 1 (bls xs) a xs.length r) (h' : RoSl 1 (bls xs) a' xs.length r') :
    Ctr Try.prog 43 [.slice a xs.length c, .slice a' xs.length c'] [] (r ++ r') (fun v L' => v = .bool true ∧ L' = []) := by
  refine Ctr.enter (n := 26) [.tmp 4] [(0, _), (1, _)] Try.func43 rfl rfl rfl (lb rfl) Try.call43 ⟨rfl, rfl, trivial⟩ ?_
  intro cx fin fin0
  refine aG ?_
  repeat (first | refine gx ?_ | refine gN fun _ => ?_ | refine gB fun _ => ?_ | fail)
  refine aLp (fun q ρ1 L1 => ∃ (j : Nat), j ≤ xs.length ∧ q = xs.length - j ∧ ρ1 = [(5, .int .i64 (j : Int)), (0, .slice a xs.length c), (1, .slice a' xs.length c')] ∧ L1 = []) (o := ⟨0, Nat.zero_le _, rfl, rfl, rfl⟩) (h := ?_)
  rintro q ρ1 L1 ⟨j, hj, rfl, rfl, rfl⟩
  refine aG ?_
  by_cases hlt : (j : Int) < (xs.length : Int)
  · have hjl : j < xs.length := by omega
    obtain ⟨bx, ox, lx, ex, frx, rfl, rfl, _, hld⟩ := RoSl.at (f := fun x : Bool => [Value.bool x]) (m := 1) (fun _ => rfl) h hjl
    obtain ⟨bz, oy, ly, ey, fry, rfl, rfl, _, hld'⟩ := RoSl.at (f := fun x : Bool => [Value.bool x]) (m := 1) (fun _ => rfl) h' hjl
    have l0 : lx[ox + j * 1]? = some (.bool xs[j]) := hld 0 (by decide)
    have l1 : ly[oy + j * 1]? = some (.bool xs[j]) := hld' 0 (by decide)
    generalize xs[j] = x at l0 l1
    repeat (first | refine gh hlt ?_ | refine gN fun _ => ?_ | refine gB fun _ => ?_ | fail)
    refine W.draw follows (by decide +kernel) (zG ?_)
    repeat (first | refine zL ?_ | (first | refine zGo ?_ | refine zSk ?_ | refine zUn ?_ | fail) | (first | refine zPT ?_ | refine zPF ?_ | fail) | refine zV (OpVal.add rfl rfl (i64_in _ (by omega))) ?_ | refine zV (OpVal.sub rfl rfl (i64_in _ (by omega))) ?_ | refine zV (OpVal.neBool tab_ok rfl rfl rfl) ?_ | refine zV (OpVal.eqBool tab_ok rfl rfl rfl) ?_ | refine zV (OpVal.eqNil tab_ok rfl rfl rfl) ?_ | refine zV (OpVal.neNil tab_ok rfl rfl rfl) ?_ | fail)
    refine zV (OpVal.ixI tab_ok rfl rfl rfl rfl rfl hjl) ?_
    refine zV (OpVal.load tab_ok rfl (show At _ _ bx (.cells lx.toArray ex frx) from .inr (by simp)) l0) ?_
    repeat (first | refine zL ?_ | (first | refine zGo ?_ | refine zSk ?_ | refine zUn ?_ | fail) | (first | refine zPT ?_ | refine zPF ?_ | fail) | refine zV (OpVal.add rfl rfl (i64_in _ (by omega))) ?_ | refine zV (OpVal.sub rfl rfl (i64_in _ (by omega))) ?_ | refine zV (OpVal.neBool tab_ok rfl rfl rfl) ?_ | refine zV (OpVal.eqBool tab_ok rfl rfl rfl) ?_ | refine zV (OpVal.eqNil tab_ok rfl rfl rfl) ?_ | refine zV (OpVal.neNil tab_ok rfl rfl rfl) ?_ | fail)
    refine zV (OpVal.ixI tab_ok rfl rfl rfl rfl rfl hjl) ?_
    refine zV (OpVal.load tab_ok rfl (show At _ _ bz (.cells ly.toArray ey fry) from .inr (by simp)) l1) ?_
    repeat (first | refine zL ?_ | (first | refine zGo ?_ | refine zSk ?_ | refine zUn ?_ | fail) | (first | refine zPT ?_ | refine zPF ?_ | fail) | refine zV (OpVal.add rfl rfl (i64_in _ (by omega))) ?_ | refine zV (OpVal.sub rfl rfl (i64_in _ (by omega))) ?_ | refine zV (OpVal.neBool tab_ok rfl rfl rfl) ?_ | refine zV (OpVal.eqBool tab_ok rfl rfl rfl) ?_ | refine zV (OpVal.eqNil tab_ok rfl rfl rfl) ?_ | refine zV (OpVal.neNil tab_ok rfl rfl rfl) ?_ | fail)
    refine WZ.nil (aG ?_)
    cases x
    all_goals
      repeat (first | refine gx ?_ | refine gN fun _ => ?_ | refine gB fun _ => ?_ | fail)
      refine aR (o := ⟨xs.length - (j + 1), by omega, j + 1, by omega, rfl, rfl, rfl⟩)
  · have hjn : j = xs.length := by omega
    repeat (first | refine gh hlt ?_ | refine gN fun _ => ?_ | refine gB fun _ => ?_ | fail)
    refine W.ret (fin _ _ (FinOk.mk' ([]) (.tmp rfl .nil) (by repeat (first | exact Sel.nil | (apply Sel.cons; (repeat (first | exact Pick.here | apply Pick.there))))) rfl ?_))
    exact ⟨rfl, rfl⟩
theorem SLeft_spec (bs : List Bool) (b : Nat) (H : HL) (h : StAt bs b H) : Ctr Try.prog 44 [.pointer (some ⟨b, 0, none⟩)] [H] [] (fun v L' => ∃ a c H2, v = .slice a bs.length c ∧ L' = [H2, H] ∧ Own 1 4 (bls bs) a bs.length c H2) := by
  obtain ⟨l, at_, a, cap, Hb, hat, hdr, hl, hc, rfl, hro⟩ := h
  have hrep : ∀ n, repL n [Value.bool false] = List.replicate n (Value.bool false) := fun n => by
    induction n with
    | zero => rfl
    | succ n ih => rw [List.replicate_succ, ← ih]; rfl
  have hn : ((l.length : Nat) : Int) - (at_ : Int) = ((l.length - at_ : Nat) : Int) := by omega
  have hbl : bs.length = l.length - at_ := by rw [← hdr, List.length_drop]
  refine Ctr.enter (n := 27) [.tmp 2] [(0, _)] Try.func44 rfl rfl rfl (lb rfl) Try.call44 ⟨rfl, trivial⟩ ?_
  intro cx fin fin0
  refine aG ?_
  refine W.split2 rfl ?_
  refine aG ?_
  repeat (first | refine gx ?_ | refine gN fun _ => ?_ | refine gB fun _ => ?_ | fail)
  refine W.drawH tab_ok 12 [.b false, .b false, .b false, .b false, .b false, .b false, .b false, .b false, .b false, .b false, .b true, .b false] [] follows (by decide +kernel) (by decide +kernel) rfl (by decide) rfl ?_
  intro _
  refine dG ?_
  repeat (first | refine dL ?_ | refine dS ?_ | (first | refine dGo ?_ | refine dSk ?_ | refine dUn ?_ | fail) | (first | refine dPT ?_ | refine dPF ?_ | fail) | refine dV (OpVal.add rfl rfl (i64_in _ (by omega))) ?_ | refine dV (OpVal.sub rfl rfl (i64_in _ (by omega))) ?_ | refine dV (OpVal.neBool tab_ok rfl rfl rfl) ?_ | refine dV (OpVal.eqBool tab_ok rfl rfl rfl) ?_ | refine dV (OpVal.eqNil tab_ok rfl rfl rfl) ?_ | refine dV (OpVal.neNil tab_ok rfl rfl rfl) ?_ | fail)
  rw [hn]
  refine dW (NewOf.mks (bytes := 1) (len := l.length - at_) (cap := l.length - at_) tab_ok rfl rfl rfl rfl rfl rfl rfl rfl rfl (Nat.le_refl _) (by omega) (by omega)) ?_
  intro b4
  rw [hrep]
  refine dG ?_
  refine WD.nil (W.dropNil (aG ?_))
  repeat (first | refine gx ?_ | refine gN fun _ => ?_ | refine gB fun _ => ?_ | fail)
  have hro2 : RoSl 1 (bls bs) (a.map fun ad => if cap = at_ then ad else ad.add (at_ * 1)) (l.length - at_) Hb := by
    rcases RoSl.drop (f := fun x : Bool => [Value.bool x]) (cap := cap) (fun _ => rfl) hro at_ hat with h | h
    · rw [hdr] at h
      exact h
    · omega
  refine W.drawH tab_ok 11 [.b false, .b false, .b false, .b false, .b false, .b false, .b false, .b false, .b false, .b false, .b true] [0] follows (by decide +kernel) (by decide +kernel) rfl (by decide) rfl ?_
  intro _
  refine dG ?_
  repeat (first | refine dL ?_ | refine dS ?_ | (first | refine dGo ?_ | refine dSk ?_ | refine dUn ?_ | fail) | (first | refine dPT ?_ | refine dPF ?_ | fail) | refine dV (OpVal.add rfl rfl (i64_in _ (by omega))) ?_ | refine dV (OpVal.sub rfl rfl (i64_in _ (by omega))) ?_ | refine dV (OpVal.neBool tab_ok rfl rfl rfl) ?_ | refine dV (OpVal.eqBool tab_ok rfl rfl rfl) ?_ | refine dV (OpVal.eqNil tab_ok rfl rfl rfl) ?_ | refine dV (OpVal.neNil tab_ok rfl rfl rfl) ?_ | fail)
  refine dV (OpVal.back tab_ok rfl rfl rfl rfl rfl hat hc) ?_
  refine WD.prim (copyTo (q := l.length - at_) (cs := bls bs) tab_ok rfl rfl rfl rfl hro2 (fun q hq => .inr (by simp [hq])) (List.mem_append_left _ (List.mem_singleton.2 rfl)) (bls_one bs) (by omega) (by simp)) (by repeat (first | exact Sel.nil | (apply Sel.cons; (repeat (first | exact Pick.here | apply Pick.there))))) (lb rfl) ?_
  rintro _ _ ⟨rfl, rfl⟩
  refine dG ?_
  have c1 : (List.replicate (l.length - at_) (Value.bool false)).take 0 ++ (bls bs).take ((l.length - at_) * 1) ++ (List.replicate (l.length - at_) (Value.bool false)).drop (0 + (l.length - at_) * 1) = bls bs := by
    rw [Nat.mul_one, ← hbl, ← bls_len bs, List.take_length]
    simp [bls_len]
  rw [c1]
  refine WD.nil (W.dropNil (aG ?_))
  repeat (first | refine gx ?_ | refine gN fun _ => ?_ | refine gB fun _ => ?_ | fail)
  rw [← hbl]
  refine W.groupV [1, 1] rfl ?_
  refine W.order [1, 0] rfl ?_
  refine W.ret (fin _ _ (FinOk.first 2 (.tmp rfl .nil) rfl ?_))
  exact ⟨_, _, _, rfl, rfl, by rw [bls_len, Nat.mul_one], .inr ⟨b4, bls bs, rfl, rfl, Nat.le_refl _, by rw [bls_len]; omega, by rw [Nat.mul_one, ← bls_len bs, List.take_length]⟩⟩
end Go.Proofs.Ytpimbaphenignaa
