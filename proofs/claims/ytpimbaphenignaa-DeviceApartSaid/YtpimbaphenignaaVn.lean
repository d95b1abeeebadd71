/-
  The device of the document: choices, Crash.
-/
import Derived.Test.YtpimbaphenignaaVm
namespace Go.Proofs.Ytpimbaphenignaa
open Go Go.Sl Go.IntWalk
set_option maxHeartbeats 8000000
set_option maxRecDepth 20000
set_option linter.unusedVariables false
def BlsIn (D : HL) (bs : List Bool) (a : Option Addr) : Prop := ∃ r, RoSl 1 (bls bs) a bs.length r ∧ ∀ q ∈ r, q ∈ D
theorem BlsIn.mono {D D' : HL} {bs : List Bool} {a : Option Addr} (h : BlsIn D bs a) (hs : ∀ q ∈ D, q ∈ D') : BlsIn D' bs a := by
  obtain ⟨r, h1, h2⟩ := h
  exact ⟨r, h1, fun q hq => hs q (h2 q hq)⟩
def DocS (bs : List Bool) (v : Value) (D : HL) : Prop := ∃ (a : Option Addr) (cap n : Nat), v = .agg (List.toArray [.slice a bs.length cap, .int .i64 (n : Int)]) ∧ bs.length ≤ cap ∧ n + bs.length ≤ 4294967296 ∧ BlsIn D bs a
theorem DocS.mono {bs : List Bool} {v : Value} {D D' : HL} (h : DocS bs v D) (hs : ∀ q ∈ D, q ∈ D') : DocS bs v D' := by
  obtain ⟨a, cap, n, h1, h2, h3, h4⟩ := h
  exact ⟨a, cap, n, h1, h2, h3, h4.mono hs⟩
theorem RNext_spec (bs : List Bool) (v : Value) (D : HL) (h : DocS bs v D) : Ctr Try.prog 57 [v] [] D (fun v' L' => ∃ v1, v' = .tuple #[v1, .bool (nextB bs).2] ∧ L' = [] ∧ DocS (nextB bs).1 v1 D) := by
  obtain ⟨a, cap, n, rfl, h1, h2, h3⟩ := h
  cases bs with
  | nil =>
    refine Ctr.enter (n := 20) [.cell 2 75, .tmp 3] [(0, _)] Try.func57 rfl rfl rfl (lb rfl) Try.call57 ⟨rfl, trivial⟩ ?_
    intro cx fin fin0
    refine aG ?_
    repeat (first | refine gx ?_ | refine gN fun _ => ?_ | refine gB fun _ => ?_ | fail)
    refine W.ret (fin _ _ (FinOk.first 0 (aRc (.tmp rfl .nil)) rfl ?_))
    exact ⟨_, rfl, rfl, a, cap, n, rfl, h1, h2, h3⟩
  | cons b l =>
    obtain ⟨r, h4, h5⟩ := h3
    have h0 : 0 < (b :: l).length := by simp
    have hl1 : 1 ≤ (b :: l).length := by simp
    have hz : ¬ (((b :: l).length : Nat) : Int) = 0 := by omega
    obtain ⟨bx, ox, lx, ex, frx, rfl, rfl, -, hld⟩ := RoSl.at (f := fun x : Bool => [Value.bool x]) (m := 1) (fun _ => rfl) h4 h0
    have l0 : lx[ox + 0 * 1]? = some (.bool b) := hld 0 (by decide)
    have hr2 : RoSl 1 (bls l) ((some ⟨bx, ox, none⟩ : Option Addr).map fun ad => if cap = 1 then ad else ad.add (1 * 1)) ((b :: l).length - 1) [(bx, .cells lx.toArray ex frx)] := by
      rcases RoSl.drop (f := fun x : Bool => [Value.bool x]) (cap := cap) (fun _ => rfl) h4 1 hl1 with h | h
      · exact h
      · omega
    have hlen1 : (b :: l).length - 1 = l.length := by simp
    rw [hlen1] at hr2
    have hn : ((n : Nat) : Int) + 1 = ((n + 1 : Nat) : Int) := by omega
    refine Ctr.enter (n := 20) [.cell 2 75, .tmp 3] [(0, _)] Try.func57 rfl rfl rfl (lb rfl) Try.call57 ⟨rfl, trivial⟩ ?_
    intro cx fin fin0
    refine aG ?_
    repeat (first | refine gh hz ?_ | refine gN fun _ => ?_ | refine gB fun _ => ?_ | fail)
    refine W.drawH tab_ok 13 [.b false, .b false, .b false, .b false, .b false, .b false, .b false, .b false, .b false, .b false, .b false, .b true, .b false] [0] follows (by decide +kernel) (by decide +kernel) rfl (by decide) rfl ?_
    intro _
    refine dG ?_
    repeat (first | refine dL ?_ | refine dS ?_ | (first | refine dGo ?_ | refine dSk ?_ | refine dUn ?_ | fail) | (first | refine dPT ?_ | refine dPF ?_ | fail) | refine dV (OpVal.add rfl rfl (i64_in _ (by omega))) ?_ | refine dV (OpVal.sub rfl rfl (i64_in _ (by omega))) ?_ | refine dV (OpVal.neBool tab_ok rfl rfl rfl) ?_ | refine dV (OpVal.eqBool tab_ok rfl rfl rfl) ?_ | refine dV (OpVal.eqNil tab_ok rfl rfl rfl) ?_ | refine dV (OpVal.neNil tab_ok rfl rfl rfl) ?_ | fail)
    refine dV (OpVal.back tab_ok rfl rfl rfl rfl (show (1 : Int) = ((1 : Nat) : Int) from rfl) hl1 h1) ?_
    repeat (first | refine dL ?_ | refine dS ?_ | (first | refine dGo ?_ | refine dSk ?_ | refine dUn ?_ | fail) | (first | refine dPT ?_ | refine dPF ?_ | fail) | refine dV (OpVal.add rfl rfl (i64_in _ (by omega))) ?_ | refine dV (OpVal.sub rfl rfl (i64_in _ (by omega))) ?_ | refine dV (OpVal.neBool tab_ok rfl rfl rfl) ?_ | refine dV (OpVal.eqBool tab_ok rfl rfl rfl) ?_ | refine dV (OpVal.eqNil tab_ok rfl rfl rfl) ?_ | refine dV (OpVal.neNil tab_ok rfl rfl rfl) ?_ | fail)
    refine dV (OpVal.build (ps := [_, _]) tab_ok rfl rfl rfl rfl (by repeat (first | exact trivial | refine ⟨⟨_, _, _, rfl, rfl, rfl⟩, ?_⟩)) rfl) ?_
    repeat (first | refine dL ?_ | refine dS ?_ | (first | refine dGo ?_ | refine dSk ?_ | refine dUn ?_ | fail) | (first | refine dPT ?_ | refine dPF ?_ | fail) | refine dV (OpVal.add rfl rfl (i64_in _ (by omega))) ?_ | refine dV (OpVal.sub rfl rfl (i64_in _ (by omega))) ?_ | refine dV (OpVal.neBool tab_ok rfl rfl rfl) ?_ | refine dV (OpVal.eqBool tab_ok rfl rfl rfl) ?_ | refine dV (OpVal.eqNil tab_ok rfl rfl rfl) ?_ | refine dV (OpVal.neNil tab_ok rfl rfl rfl) ?_ | fail)
    refine dV (OpVal.ixI (j := 0) tab_ok rfl rfl rfl rfl rfl h0) ?_
    refine dV (OpVal.load tab_ok rfl (show At _ _ bx (.cells lx.toArray ex frx) from .inr (by simp [h5])) l0) ?_
    repeat (first | refine dL ?_ | refine dS ?_ | (first | refine dGo ?_ | refine dSk ?_ | refine dUn ?_ | fail) | (first | refine dPT ?_ | refine dPF ?_ | fail) | refine dV (OpVal.add rfl rfl (i64_in _ (by omega))) ?_ | refine dV (OpVal.sub rfl rfl (i64_in _ (by omega))) ?_ | refine dV (OpVal.neBool tab_ok rfl rfl rfl) ?_ | refine dV (OpVal.eqBool tab_ok rfl rfl rfl) ?_ | refine dV (OpVal.eqNil tab_ok rfl rfl rfl) ?_ | refine dV (OpVal.neNil tab_ok rfl rfl rfl) ?_ | fail)
    refine WD.nil (W.dropNil (aG ?_))
    repeat (first | refine gx ?_ | refine gN fun _ => ?_ | refine gB fun _ => ?_ | fail)
    refine W.ret (fin _ _ (FinOk.first 0 (aRc (.tmp rfl .nil)) rfl ?_))
    rw [hlen1, hn]
    exact ⟨_, rfl, rfl, _, cap - 1, n + 1, rfl, (show l.length ≤ cap - 1 by simp at h1; omega), (show n + 1 + l.length ≤ 4294967296 by simp at h2; omega), _, hr2, h5⟩
end Go.Proofs.Ytpimbaphenignaa
