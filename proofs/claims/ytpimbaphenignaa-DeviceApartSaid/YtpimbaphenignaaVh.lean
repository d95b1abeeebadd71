/-
  Choices, one behind the other; Barrier, Crash, Turn, SetHead, New.
-/
import Derived.Test.YtpimbaphenignaaVg
namespace Go.Proofs.Ytpimbaphenignaa
open Go Go.Sl Go.IntWalk
set_option maxHeartbeats 8000000
set_option maxRecDepth 20000
set_option linter.unusedVariables false
def bls (l : List Bool) : List Value := l.flatMap fun x => [.bool x]
theorem bls_len (l : List Bool) : (bls l).length = l.length := by
  unfold bls
  induction l with
  | nil => rfl
  | cons x l ih => simp [ih]
theorem bls_one (l : List Bool) : allOne (bls l) = true := allOne_of fun v hv => by
  obtain ⟨x, -, hx⟩ := List.mem_flatMap.1 hv
  rw [List.mem_singleton.1 hx]
  rfl
def StAt (bs : List Bool) (b : Nat) (H : HL) : Prop := ∃ (l : List Bool) (at_ : Nat) (a : Option Addr) (cap : Nat) (Hb : HL), at_ ≤ l.length ∧ l.drop at_ = bs ∧ l.length ≤ 140737488351232 ∧ l.length ≤ cap ∧
  H = [(b, Obj.cells (List.toArray [.slice a l.length cap, .int .i64 (at_ : Int)]) 68 (0, 0))] ++ Hb ∧ RoSl 1 (bls l) a l.length Hb
def nextB (bs : List Bool) : List Bool × Bool := (bs.tail, bs.headD false)
theorem SNext_spec (bs : List Bool) (b : Nat) (H : HL) (h : StAt bs b H) : Ctr Try.prog 36 [.pointer (some ⟨b, 0, none⟩)] [H] [] (fun v L' => ∃ H', v = .bool (nextB bs).2 ∧ L' = [H'] ∧ StAt (nextB bs).1 b H') := by
  obtain ⟨l, at_, a, cap, Hb, hat, hdr, hl, hc, rfl, hro⟩ := h
  by_cases hlt : at_ < l.length
  · have hz : ¬ (at_ : Int) ≥ (l.length : Int) := by omega
    have hbs : bs = l[at_] :: l.drop (at_ + 1) := by rw [← hdr, List.drop_eq_getElem_cons hlt]
    obtain ⟨bx, ox, lx, ex, frx, rfl, rfl, -, hld⟩ := RoSl.at (f := fun x : Bool => [Value.bool x]) (m := 1) (fun _ => rfl) hro hlt
    have l0 : lx[ox + at_ * 1]? = some (.bool l[at_]) := hld 0 (by decide)
    refine Ctr.enter (n := 31) [.tmp 2] [(0, _)] Try.func36 rfl rfl rfl (lb rfl) Try.call36 ⟨rfl, trivial⟩ ?_
    intro cx fin fin0
    refine aG ?_
    refine W.split2 rfl ?_
    refine aG ?_
    refine W.drawH tab_ok 10 [.b false, .b false, .b false, .b false, .b false, .b false, .b false, .b false, .b false, .b false] [] follows (by decide +kernel) (by decide +kernel) rfl (by decide) rfl ?_
    intro _
    refine dG ?_
    repeat (first | refine dL ?_ | refine dS ?_ | (first | refine dGo ?_ | refine dSk ?_ | refine dUn ?_ | fail) | (first | refine dPT ?_ | refine dPF ?_ | fail) | refine dV (OpVal.add rfl rfl (i64_in _ (by omega))) ?_ | refine dV (OpVal.sub rfl rfl (i64_in _ (by omega))) ?_ | refine dV (OpVal.neBool tab_ok rfl rfl rfl) ?_ | refine dV (OpVal.eqBool tab_ok rfl rfl rfl) ?_ | refine dV (OpVal.eqNil tab_ok rfl rfl rfl) ?_ | refine dV (OpVal.neNil tab_ok rfl rfl rfl) ?_ | fail)
    refine WD.nil (W.dropNil (aG ?_))
    repeat (first | refine gh hz ?_ | refine gN fun _ => ?_ | refine gB fun _ => ?_ | fail)
    have e1 : (at_ : Int) + 1 - 1 = (at_ : Int) := by omega
    have e2 : (at_ : Int) + 1 = ((at_ + 1 : Nat) : Int) := by omega
    refine W.drawH tab_ok 11 [.b false, .b false, .b false, .b false, .b false, .b false, .b false, .b false, .b false, .b false, .b false] [] follows (by decide +kernel) (by decide +kernel) rfl (by decide) rfl ?_
    intro _
    refine dG ?_
    repeat (first | refine dL ?_ | refine dS ?_ | (first | refine dGo ?_ | refine dSk ?_ | refine dUn ?_ | fail) | (first | refine dPT ?_ | refine dPF ?_ | fail) | refine dV (OpVal.add rfl rfl (i64_in _ (by omega))) ?_ | refine dV (OpVal.sub rfl rfl (i64_in _ (by omega))) ?_ | refine dV (OpVal.neBool tab_ok rfl rfl rfl) ?_ | refine dV (OpVal.eqBool tab_ok rfl rfl rfl) ?_ | refine dV (OpVal.eqNil tab_ok rfl rfl rfl) ?_ | refine dV (OpVal.neNil tab_ok rfl rfl rfl) ?_ | fail)
    refine dV (OpVal.ixI tab_ok rfl rfl rfl rfl e1 hlt) ?_
    refine dV (OpVal.load tab_ok rfl (show At _ _ bx (.cells lx.toArray ex frx) from .inr (by simp)) l0) ?_
    refine WD.nil (W.dropNil (aG ?_))
    repeat (first | refine gx ?_ | refine gN fun _ => ?_ | refine gB fun _ => ?_ | fail)
    rw [e2]
    refine W.groupV [0, 0] rfl ?_
    refine W.ret (fin _ _ (FinOk.first 1 (.tmp rfl .nil) rfl ?_))
    exact ⟨_, by rw [hbs]; rfl, rfl, l, at_ + 1, _, _, _, hlt, by rw [hbs]; rfl, hl, hc, rfl, hro⟩
  · have hz : (at_ : Int) ≥ (l.length : Int) := by omega
    have hbs : bs = [] := by rw [← hdr]; exact List.drop_of_length_le (by omega)
    subst hbs
    refine Ctr.enter (n := 31) [.tmp 2] [(0, _)] Try.func36 rfl rfl rfl (lb rfl) Try.call36 ⟨rfl, trivial⟩ ?_
    intro cx fin fin0
    refine aG ?_
    refine W.split2 rfl ?_
    refine aG ?_
    refine W.drawH tab_ok 10 [.b false, .b false, .b false, .b false, .b false, .b false, .b false, .b false, .b false, .b false] [] follows (by decide +kernel) (by decide +kernel) rfl (by decide) rfl ?_
    intro _
    refine dG ?_
    repeat (first | refine dL ?_ | refine dS ?_ | (first | refine dGo ?_ | refine dSk ?_ | refine dUn ?_ | fail) | (first | refine dPT ?_ | refine dPF ?_ | fail) | refine dV (OpVal.add rfl rfl (i64_in _ (by omega))) ?_ | refine dV (OpVal.sub rfl rfl (i64_in _ (by omega))) ?_ | refine dV (OpVal.neBool tab_ok rfl rfl rfl) ?_ | refine dV (OpVal.eqBool tab_ok rfl rfl rfl) ?_ | refine dV (OpVal.eqNil tab_ok rfl rfl rfl) ?_ | refine dV (OpVal.neNil tab_ok rfl rfl rfl) ?_ | fail)
    refine WD.nil (W.dropNil (aG ?_))
    repeat (first | refine gh hz ?_ | refine gN fun _ => ?_ | refine gB fun _ => ?_ | fail)
    refine W.groupV [0, 0] rfl ?_
    refine W.ret (fin _ _ (FinOk.first 1 (.tmp rfl .nil) rfl ?_))
    exact ⟨_, rfl, rfl, l, at_, _, _, _, hat, hdr, hl, hc, rfl, hro⟩
theorem SNew_spec (l : List Bool) (hl : l.length ≤ 140737488351232) (a : Option Addr) (cap : Nat) (ro : HL) (hro : RoSl 1 (bls l) a l.length ro) :
    Ctr Try.prog 15 [.slice a l.length cap] [] ro (fun v L' => ∃ b H, v = .pointer (some ⟨b, 0, none⟩) ∧ L' = [H] ∧ StAt l b H) := by
  have hrep : ∀ n, repL n [Value.bool false] = List.replicate n (Value.bool false) := fun n => by
    induction n with
    | zero => rfl
    | succ n ih => rw [List.replicate_succ, ← ih]; rfl
  have hAdd : ∀ b, Ctr Try.prog 35 [.pointer (some ⟨b, 0, none⟩), .slice a l.length cap] [[(b, .cells #[.slice none 0 0, .int .i64 0] 68 (0, 0))]] ro (fun _ L' => ∃ H, L' = [H] ∧ StAt l b H) := fun b => by
    refine Ctr.enter (n := 33) [] [(0, _), (1, _)] Try.func35 rfl rfl rfl (lb rfl) Try.call35 ⟨rfl, rfl, trivial⟩ ?_
    intro cx fin fin0
    refine aG ?_
    repeat (first | refine gx ?_ | refine gN fun _ => ?_ | refine gB fun _ => ?_ | fail)
    have e1 : ((0 : Nat) : Int) + (l.length : Int) = (l.length : Int) := by omega
    refine aW (NewOf.mks (bytes := 1) (len := l.length) (cap := l.length) tab_ok rfl rfl rfl rfl rfl rfl rfl e1 e1 (Nat.le_refl _) (by omega) (by omega)) ?_
    intro b4
    rw [hrep]
    refine aG ?_
    repeat (first | refine gx ?_ | refine gN fun _ => ?_ | refine gB fun _ => ?_ | fail)
    refine aPr (copyTo (q := 0) (cs := bls []) tab_ok rfl rfl rfl rfl ⟨rfl, .inl ⟨rfl, rfl⟩⟩ (fun p hp => by cases hp) (List.mem_append_left _ (List.mem_singleton.2 rfl)) rfl (Nat.zero_min _) (by simp)) ?_
    rintro _ _ ⟨rfl, rfl⟩
    refine aG ?_
    have c0 : (List.replicate l.length (Value.bool false)).take 0 ++ (bls []).take (0 * 1) ++ (List.replicate l.length (Value.bool false)).drop (0 + 0 * 1) = List.replicate l.length (Value.bool false) := by simp
    rw [c0]
    repeat (first | refine gx ?_ | refine gN fun _ => ?_ | refine gB fun _ => ?_ | fail)
    refine aV (OpVal.pieceG (l := 0) (h := l.length) (c := l.length) tab_ok rfl rfl rfl ⟨_, rfl⟩ ⟨rfl, rfl⟩ rfl (by omega) (by omega) (by omega)) ?_
    have hoff : (if l.length = 0 then 0 else 0 + 0 * 1) = 0 := by split <;> rfl
    rw [hoff]
    refine aPr (copyTo (q := l.length) (cs := bls l) tab_ok rfl rfl rfl rfl hro (fun q hq => .inr hq) (List.mem_append_left _ (List.mem_singleton.2 rfl)) (bls_one l) (by omega) (by simp)) ?_
    rintro _ _ ⟨rfl, rfl⟩
    refine aG ?_
    have c1 : (List.replicate l.length (Value.bool false)).take 0 ++ (bls l).take (l.length * 1) ++ (List.replicate l.length (Value.bool false)).drop (0 + l.length * 1) = bls l := by
      rw [Nat.mul_one, ← bls_len l, List.take_length]
      simp [bls_len]
    rw [c1]
    repeat (first | refine gx ?_ | refine gN fun _ => ?_ | refine gB fun _ => ?_ | fail)
    refine W.groupV [1, 0] rfl ?_
    refine fin0 _ _ (FinOk.first 1 .nil rfl ?_)
    exact ⟨_, rfl, l, 0, _, _, _, Nat.zero_le _, rfl, hl, Nat.le_refl _, rfl, by rw [bls_len, Nat.mul_one], .inr ⟨b4, 0, bls l, _, _, rfl, rfl, by rw [bls_len]; omega, by rw [List.drop_zero, Nat.mul_one, ← bls_len l, List.take_length]⟩⟩
  refine Ctr.enter (n := 10) [.tmp 2] [(0, _)] Try.func15 rfl rfl rfl (lb rfl) Try.call15 ⟨rfl, trivial⟩ ?_
  intro cx fin fin0
  refine aG ?_
  refine aBu (ps := []) ?_
  repeat (first | refine gx ?_ | refine gN fun _ => ?_ | refine gB fun _ => ?_ | fail)
  rename_i b3
  refine aC (o := hAdd b3) (h := ?_)
  rintro _ _ ⟨H, rfl, hst⟩
  refine aG ?_
  repeat (first | refine gx ?_ | refine gN fun _ => ?_ | refine gB fun _ => ?_ | fail)
  refine W.ret (fin _ _ (FinOk.first 1 (.tmp rfl .nil) rfl ?_))
  exact ⟨_, _, rfl, rfl, hst⟩
theorem Barrier1_spec : Ctr Try.prog 34 [] [] [] (fun v L' => v = .bool true ∧ L' = []) := by
  refine Ctr.enter (n := 1) [.tmp 0] [] Try.func34 rfl rfl rfl (lb rfl) Try.call34 trivial ?_
  intro cx fin fin0
  refine aG ?_
  repeat (first | refine gx ?_ | refine gN fun _ => ?_ | refine gB fun _ => ?_ | fail)
  refine W.ret (fin _ _ (FinOk.mk' ([]) (.tmp rfl .nil) (by repeat (first | exact Sel.nil | (apply Sel.cons; (repeat (first | exact Pick.here | apply Pick.there))))) rfl ?_))
  exact ⟨rfl, rfl⟩
def allB (_ : Unit) : Unit × Bool := ((), true)
def Dv.barrier (d : Dv) (from_ to : Int) : Dv := (settle allB (d, ()) (d.laterIn from_ to)).1
def Dv.crash (d : Dv) (from_ to : Int) (keep : List Bool) : Dv × List Bool := settle nextB (d, keep) (d.laterIn from_ to)
theorem barrier_ok {d : Dv} (hd : d.Ok) (from_ to : Int) : (d.barrier from_ to).Ok := settle_ok allB (s := (d, ())) hd (laterIn_still d from_ to)
theorem crash_ok {d : Dv} (hd : d.Ok) (from_ to : Int) (keep : List Bool) : (d.crash from_ to keep).1.Ok := settle_ok nextB (s := (d, keep)) hd (laterIn_still d from_ to)
theorem DBarrier_spec (d : Dv) (hd : d.Ok) (b : Nat) (H : HL) (h : DevAt d b H) (from_ to : Int) :
    Ctr Try.prog 14 [.pointer (some ⟨b, 0, none⟩), .int .i64 from_, .int .i64 to] [H] [] (fun _ L' => ∃ H', L' = [H'] ∧ DevAt (d.barrier from_ to) b H') := by
  have hS := settle_spec allB (fun _ Hs => Hs = []) (.func (.func 34) #[] #[]) (fun s Hs hs => by
    subst hs
    refine Ctr.v (fst := []) (cap := []) (Barrier1_spec.frame [[]] |>.post ?_) rfl
    rintro v _ ⟨_, rfl, rfl, rfl⟩
    exact ⟨[], rfl, rfl, rfl⟩) d hd b H h () [] rfl from_ to
  refine Ctr.enter (n := 10) [] [(0, _), (1, _), (2, _)] Try.func14 rfl rfl rfl (lb rfl) Try.call14 ⟨rfl, rfl, rfl, trivial⟩ ?_
  intro cx fin fin0
  refine aG ?_
  refine W.nilChunk ?_
  refine aC (o := hS) (h := ?_)
  rintro _ _ ⟨H2, Hs2, rfl, h2, -⟩
  refine aG ?_
  refine fin0 _ _ (FinOk.first 1 .nil rfl ?_)
  exact ⟨_, rfl, h2⟩
theorem DCrash_spec (d : Dv) (hd : d.Ok) (b : Nat) (H : HL) (h : DevAt d b H) (from_ to : Int) (keep : List Bool) (bs : Nat) (Hs : HL) (hs : StAt keep bs Hs) :
    Ctr Try.prog 16 [.pointer (some ⟨b, 0, none⟩), .int .i64 from_, .int .i64 to, .pointer (some ⟨bs, 0, none⟩)] [H, Hs] [] (fun _ L' => ∃ H' Hs', L' = [H', Hs'] ∧ DevAt (d.crash from_ to keep).1 b H' ∧ StAt (d.crash from_ to keep).2 bs Hs') := by
  have hS := settle_spec nextB (fun k Hs => StAt k bs Hs) (.func (.func 36) #[.pointer (some ⟨bs, 0, none⟩)] #[]) (fun s Hs hs => Ctr.v (fst := [.pointer (some ⟨bs, 0, none⟩)]) (cap := []) (SNext_spec s bs Hs hs) rfl) d hd b H h keep Hs hs from_ to
  refine Ctr.enter (n := 14) [] [(0, _), (1, _), (2, _), (3, _)] Try.func16 rfl rfl rfl (lb rfl) Try.call16 ⟨rfl, rfl, rfl, rfl, trivial⟩ ?_
  intro cx fin fin0
  refine aG ?_
  refine aC (o := hS) (h := ?_)
  rintro _ _ ⟨H2, Hs2, rfl, h2, h3⟩
  refine aG ?_
  refine fin0 _ _ (FinOk.first 2 .nil rfl ?_)
  exact ⟨_, _, rfl, h2, h3⟩
end Go.Proofs.Ytpimbaphenignaa
