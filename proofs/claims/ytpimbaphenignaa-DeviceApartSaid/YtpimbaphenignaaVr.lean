/-
  A device that has the document's sectors.
-/
import Derived.Test.YtpimbaphenignaaVq
namespace Go.Sl
open Go
variable {P : Program} {n : Nat} {R : HL} {cx : Cx} {ρ : Env} {L : List HL}
/-- The bytes of a constant text: the row gets its mark. -/
theorem markOwn {T : Tab} (hT : TabOk P T) {t e ty : TypeId} {x : Operand} {b len cap : Nat} {l : List Value} {ex : TypeId} (hx : ev? ρ x = some (.slice (some ⟨b, 0, none⟩) len cap)) (ht : look? T.sls t = some e) (he : look? T.ints e = some .u8)
    (hb : (b, .cells l.toArray ex (0, 0)) ∈ L.flatten) :
    Prim P n R cx (.convert t t x) ty ρ L [[(b, .cells l.toArray ex (0, 0))]] (fun v L' => v = .slice (some ⟨b, 0, none⟩) len cap ∧ L' = [[(b, .cells l.toArray ex (l.length, l.length + 1))]]) := by
  refine ⟨fun oo ac w ho hty hf hst => ?_⟩
  have hu := hT.sls _ (look?_mem ht)
  have hi := hT.ints _ (look?_mem he)
  have hg : w.heap[b]? = some (.cells l.toArray ex (0, 0)) := hst.has _ hb
  have hsh : w.shape? b = some (ex, l.length) := by unfold World.shape?; rw [hg]; simp
  have hfr : w.freeze ⟨b, l.length, none⟩ 1 = { w with heap := w.heap.setIfInBounds b (.cells l.toArray ex (l.length, l.length + 1)), drawn := w.drawn } := by
    unfold World.freeze
    rw [if_neg (by decide)]
    congr 1
    apply Array.ext
    · simp
    · intro i h1 h2
      simp only [Array.getElem_modify]
      by_cases h : b = i
      · subst h
        have hv : w.heap[b]'(by simpa using h1) = .cells l.toArray ex (0, 0) := by
          have := hg
          rw [Array.getElem?_eq_getElem (by simpa using h1)] at this
          exact Option.some.inj this
        simp [hv]
      · have h3 : i < w.heap.size := by simpa using h1
        simp only [h, if_false]
        rw [Array.getElem_setIfInBounds h3]
        simp [h]
  refine ⟨_, _, _, ?_, ⟨rfl, rfl⟩, by simpa [ids] using St.setO w w.drawn b _ (.cells l.toArray ex (l.length, l.length + 1)) hg⟩
  unfold execOp; rw [ho]
  simp only [hf.ev hx]
  have key : (convert t t (.slice (some ⟨b, 0, none⟩) len cap)).run P w = .ok (.slice (some ⟨b, 0, none⟩) len cap) (w.freeze ⟨b, l.length, none⟩ 1) := by
    simp [convert, run_underlying hu, run_underlying hi, markStringish, hsh]
  rw [Sem.run_bind, key, hfr]
  rfl
/-- A guarded operation that makes a block. -/
theorem WD.guardGoNew {ops : Array Oper} {K : Env → List HL → Prop} {el : List Kd} {fl : List (Nat × Obj)} {Y : List HL} {d : Nat} {op : Op} {ty : TypeId} {pos : String} {af : Array Edge} {l : List Oper} {j s : Nat} {want b : Bool} {o : Obj} {f : Nat → Value}
    (hj : (ops[j]?).bind (·.dst) = some s) (hb : ρ.get? s = some (.bool b)) (hw : b = want) (h : NewOf P n R cx op ty ρ Y o f) (hd : d < n) (hk : ∀ b, WD P n R cx ops el fl l ((d, f b) :: ρ) ([(b, o)] :: Y) K) :
    WD P n R cx ops (.b true :: el) fl (⟨some d, op, ty, pos, af, some (j, want)⟩ :: l) ρ Y K :=
  WD.guardGo hj hb hw fun E F i a h3 hf hwt => .inl ⟨hwt, fun w hs => by
    obtain ⟨m, hr⟩ := h.go ⟨some d, op, ty, pos, af, some (j, want)⟩ a w rfl rfl hf hs
    have hs' : St cx.w0 cx.S0 R Y { w with drawn := m } := ⟨hs.has, hs.nd, hs.fr, hs.own, hs.sz, hs.ro, hs.env⟩
    exact .inl ⟨_, _, hr, _, ⟨hs'.new o, Lf.new⟩, (hk w.heap.size).go E F (i + 1) _ h3 (hf.put hd _)⟩⟩
end Go.Sl
namespace Go.Proofs.Ytpimbaphenignaa
open Go Go.Sl Go.IntWalk
set_option maxHeartbeats 8000000
set_option maxRecDepth 20000
set_option linter.unusedVariables false
theorem Like_spec (d : Dv) (hd : d.Ok) (b : Nat) (H : HL) (h : DevAt d b H) (v : Value) (D : HL) (hdoc : DocD d v D) :
    Ctr Try.prog 29 [.pointer (some ⟨b, 0, none⟩), v] [H] D (fun v' L' => ∃ H', v' = .bool true ∧ L' = [H'] ∧ DevAt d b H') := by
  have hn := hd.n.2
  have hR := fun i => DRead_spec d hd b H h i
  have hL := fun i => DLasting_spec d hd b H h i
  have hR2 := fun i => RRead_spec d hd v D hdoc i
  have hL2 := fun i => RLasting_spec d hd v D hdoc i
  have hLen := DLen_spec d b H h
  have hLa := DLater_spec d hd b H h 0 d.lasts.length
  have hLa2 := RLater_spec d hd v D hdoc 0 d.lasts.length
  have hHe := fun H2 (h2 : DevAt d b H2) => DHead_spec d hd b H2 h2
  have hlat : (d.laterIn 0 d.lasts.length).length ≤ 1024 := by
    unfold Dv.laterIn
    exact Nat.le_trans (List.length_filter_le _ _) (by simpa using hn)
  obtain ⟨a, c, at_, ct, ah, ch, rfl, h2, h3, h4, rh, h5, h6⟩ := hdoc
  refine Ctr.enter (n := 95) [.tmp 4] [(0, _), (1, _)] Try.func29 rfl rfl rfl (lb rfl) Try.call29 ⟨rfl, rfl, trivial⟩ ?_
  intro cx fin fin0
  refine aG ?_
  repeat (first | refine gx ?_ | refine gN fun _ => ?_ | refine gB fun _ => ?_ | fail)
  rename_i b3
  refine aLp (fun q ρ1 L1 => ∃ (j : Nat) (i : Int), j ≤ d.lasts.length + 2 ∧ i = (j : Int) - 1 ∧ q = d.lasts.length + 2 - j ∧ ρ1 = [(5, .int .i64 i), (3, .pointer (some ⟨b3, 0, none⟩)), (0, .pointer (some ⟨b, 0, none⟩))] ∧ L1 = [H, [(b3, .cells #[.slice a d.lasts.length c, .slice at_ d.later.length ct, .slice ah d.head.length ch] 53 (0, 0))]]) (o := ⟨0, -1, by omega, by omega, rfl, rfl, rfl⟩) (h := ?_)
  rintro q ρ1 L1 ⟨j, i, hj, hi, rfl, rfl, rfl⟩
  refine aG ?_
  by_cases hlt : i ≤ (d.lasts.length : Int)
  · have hR := hR i
    have hL := hL i
    have hR2 := hR2 i
    have hL2 := hL2 i
    generalize d.read i = r1 at *
    generalize d.lasting i = r2 at *
    have n1 : ¬ r1.2 ≠ r1.2 := fun h => h rfl
    have n2 : ¬ r2.2 ≠ r2.2 := fun h => h rfl
    repeat (first | refine gh hlt ?_ | refine gN fun _ => ?_ | refine gB fun _ => ?_ | fail)
    refine aC (o := hR) (h := ?_) (hro := RoIn.own 0 rfl)
    rintro _ _ ⟨a1, c1, H1, rfl, rfl, ho1⟩
    refine aG ?_
    repeat (first | refine gx ?_ | refine gN fun _ => ?_ | refine gB fun _ => ?_ | fail)
    refine aC (o := hR2) (h := ?_) (hro := RoIn.all (fun q hq => hq))
    rintro _ _ ⟨a2, c2, q2, rfl, rfl, hr2, hs2⟩
    refine aG ?_
    repeat (first | refine gx ?_ | refine gN fun _ => ?_ | refine gB fun _ => ?_ | fail)
    refine aC (o := hL) (h := ?_) (hro := RoIn.own 1 rfl)
    rintro _ _ ⟨a3, c3, H3, rfl, rfl, ho3⟩
    refine aG ?_
    repeat (first | refine gx ?_ | refine gN fun _ => ?_ | refine gB fun _ => ?_ | fail)
    refine aC (o := hL2) (h := ?_) (hro := RoIn.all (fun q hq => hq))
    rintro _ _ ⟨a4, c4, q4, rfl, rfl, hr4, hs4⟩
    refine aG ?_
    repeat (first | refine gh (gc2 n1 n2) ?_ | refine gN fun _ => ?_ | refine gB fun _ => ?_ | fail)
    refine aV (OpVal.bytesStr tab_ok rfl rfl rfl rfl (Own.roSl ho1) (fun q hq => .inl (by simp [hq]))) ?_
    repeat (first | refine gh (gc2 n1 n2) ?_ | refine gN fun _ => ?_ | refine gB fun _ => ?_ | fail)
    refine aV (OpVal.bytesStr tab_ok rfl rfl rfl rfl hr2 (fun q hq => .inr (hs2 q hq))) ?_
    repeat (first | refine gh (gc2 n1 n2) ?_ | refine gN fun _ => ?_ | refine gB fun _ => ?_ | fail)
    refine aV (OpVal.neStr rfl rfl) ?_
    repeat (first | refine gh (gc2 n1 n2) ?_ | refine gN fun _ => ?_ | refine gB fun _ => ?_ | fail)
    refine aV (OpVal.bytesStr tab_ok rfl rfl rfl rfl (Own.roSl ho3) (fun q hq => .inl (by simp [hq]))) ?_
    repeat (first | refine gh (gc2 n1 n2) ?_ | refine gN fun _ => ?_ | refine gB fun _ => ?_ | fail)
    refine aV (OpVal.bytesStr tab_ok rfl rfl rfl rfl hr4 (fun q hq => .inr (hs4 q hq))) ?_
    repeat (first | refine gh (gc2 n1 n2) ?_ | refine gN fun _ => ?_ | refine gB fun _ => ?_ | fail)
    refine aV (OpVal.neStr rfl rfl) ?_
    repeat (first | refine gh (gc2 n1 n2) ?_ | refine gN fun _ => ?_ | refine gB fun _ => ?_ | fail)
    refine aR (o := ⟨d.lasts.length + 2 - (j + 1), by omega, j + 1, i + 1, by omega, by omega, rfl, rfl, rfl⟩)
  · repeat (first | refine gh hlt ?_ | refine gN fun _ => ?_ | refine gB fun _ => ?_ | fail)
    refine W.drawH tab_ok 29 [.b false, .b true, .b false, .b false, .b false, .b false, .b false, .b false, .b false, .b false, .b false, .b true, .b false, .b false, .b false, .b false, .b true, .b true, .b false, .b false, .b false, .b true, .b true, .b false, .b false, .b false, .b false, .b false, .b false] [0] follows (by decide +kernel) (by decide +kernel) rfl (by decide) rfl ?_
    intro _
    refine dG ?_
    refine dC (o := hLen) (h := ?_) (hro := RoIn.own 0 rfl)
    rintro _ _ ⟨rfl, rfl⟩
    refine dG ?_
    have hb3 : ∀ (L : List HL), At ([(b3, Obj.cells (List.toArray [.slice a d.lasts.length c, .slice at_ d.later.length ct, .slice ah d.head.length ch]) 53 (0, 0))] ++ D) L b3 (Obj.cells (List.toArray [.slice a d.lasts.length c, .slice at_ d.later.length ct, .slice ah d.head.length ch]) 53 (0, 0)) := fun L => .inr (by simp)
    repeat (first | refine dL ?_ | refine dS ?_ | (first | refine dGo ?_ | refine dSk ?_ | refine dUn ?_ | fail) | (first | refine dPT ?_ | refine dPF ?_ | fail) | refine dV (OpVal.add rfl rfl (i64_in _ (by omega))) ?_ | refine dV (OpVal.sub rfl rfl (i64_in _ (by omega))) ?_ | refine dV (OpVal.neBool tab_ok rfl rfl rfl) ?_ | refine dV (OpVal.eqBool tab_ok rfl rfl rfl) ?_ | refine dV (OpVal.eqNil tab_ok rfl rfl rfl) ?_ | refine dV (OpVal.neNil tab_ok rfl rfl rfl) ?_ | fail)
    refine dGo ?_ (hw := by simp) (o := OpVal.load tab_ok rfl (hb3 _) rfl)
    repeat (first | refine dL ?_ | refine dS ?_ | (first | refine dGo ?_ | refine dSk ?_ | refine dUn ?_ | fail) | (first | refine dPT ?_ | refine dPF ?_ | fail) | refine dV (OpVal.add rfl rfl (i64_in _ (by omega))) ?_ | refine dV (OpVal.sub rfl rfl (i64_in _ (by omega))) ?_ | refine dV (OpVal.neBool tab_ok rfl rfl rfl) ?_ | refine dV (OpVal.eqBool tab_ok rfl rfl rfl) ?_ | refine dV (OpVal.eqNil tab_ok rfl rfl rfl) ?_ | refine dV (OpVal.neNil tab_ok rfl rfl rfl) ?_ | fail)
    refine dCG (o := hLa) (h := ?_) (hw := by simp)
    rintro _ _ ⟨ad, cd, H2, Hd, rfl, rfl, hdv2, hod⟩
    refine dG ?_
    refine dGo ?_ (hw := by simp) (o := OpVal.load tab_ok rfl (hb3 _) rfl)
    repeat (first | refine dL ?_ | refine dS ?_ | (first | refine dGo ?_ | refine dSk ?_ | refine dUn ?_ | fail) | (first | refine dPT ?_ | refine dPF ?_ | fail) | refine dV (OpVal.add rfl rfl (i64_in _ (by omega))) ?_ | refine dV (OpVal.sub rfl rfl (i64_in _ (by omega))) ?_ | refine dV (OpVal.neBool tab_ok rfl rfl rfl) ?_ | refine dV (OpVal.eqBool tab_ok rfl rfl rfl) ?_ | refine dV (OpVal.eqNil tab_ok rfl rfl rfl) ?_ | refine dV (OpVal.neNil tab_ok rfl rfl rfl) ?_ | fail)
    refine dGo ?_ (hw := by simp) (o := OpVal.load tab_ok rfl (hb3 _) rfl)
    repeat (first | refine dL ?_ | refine dS ?_ | (first | refine dGo ?_ | refine dSk ?_ | refine dUn ?_ | fail) | (first | refine dPT ?_ | refine dPF ?_ | fail) | refine dV (OpVal.add rfl rfl (i64_in _ (by omega))) ?_ | refine dV (OpVal.sub rfl rfl (i64_in _ (by omega))) ?_ | refine dV (OpVal.neBool tab_ok rfl rfl rfl) ?_ | refine dV (OpVal.eqBool tab_ok rfl rfl rfl) ?_ | refine dV (OpVal.eqNil tab_ok rfl rfl rfl) ?_ | refine dV (OpVal.neNil tab_ok rfl rfl rfl) ?_ | fail)
    refine dCG (o := hLa2) (h := ?_) (hw := by simp) (hro := RoIn.all (fun q hq => by simp [hq]))
    rintro _ _ ⟨ae, ce, He, rfl, rfl, hoe⟩
    refine dG ?_
    refine dCG (o := SameInts_spec _ hlat ad ae cd ce Hd He (Own.roSl hod) (Own.roSl hoe)) (h := ?_) (hw := by simp) (hro := RoIn.append (RoIn.own 2 rfl) (RoIn.own 0 rfl))
    rintro _ _ ⟨rfl, rfl⟩
    refine dG ?_
    repeat (first | refine dL ?_ | refine dS ?_ | (first | refine dGo ?_ | refine dSk ?_ | refine dUn ?_ | fail) | (first | refine dPT ?_ | refine dPF ?_ | fail) | refine dV (OpVal.add rfl rfl (i64_in _ (by omega))) ?_ | refine dV (OpVal.sub rfl rfl (i64_in _ (by omega))) ?_ | refine dV (OpVal.neBool tab_ok rfl rfl rfl) ?_ | refine dV (OpVal.eqBool tab_ok rfl rfl rfl) ?_ | refine dV (OpVal.eqNil tab_ok rfl rfl rfl) ?_ | refine dV (OpVal.neNil tab_ok rfl rfl rfl) ?_ | fail)
    refine dCG (o := hHe _ hdv2) (h := ?_) (hw := by simp) (hro := RoIn.own 1 rfl)
    rintro _ _ ⟨ag, cg, Hg, rfl, rfl, hog⟩
    refine dG ?_
    refine dVg (OpVal.bytesStr tab_ok rfl rfl rfl rfl (Own.roSl hog) (fun q hq => .inl (by simp [hq]))) ?_
    repeat (first | refine dL ?_ | refine dS ?_ | (first | refine dGo ?_ | refine dSk ?_ | refine dUn ?_ | fail) | (first | refine dPT ?_ | refine dPF ?_ | fail) | refine dV (OpVal.add rfl rfl (i64_in _ (by omega))) ?_ | refine dV (OpVal.sub rfl rfl (i64_in _ (by omega))) ?_ | refine dV (OpVal.neBool tab_ok rfl rfl rfl) ?_ | refine dV (OpVal.eqBool tab_ok rfl rfl rfl) ?_ | refine dV (OpVal.eqNil tab_ok rfl rfl rfl) ?_ | refine dV (OpVal.neNil tab_ok rfl rfl rfl) ?_ | fail)
    refine dGo ?_ (hw := by simp) (o := OpVal.load tab_ok rfl (hb3 _) rfl)
    refine dGo ?_ (hw := by simp) (o := OpVal.bytesStr tab_ok rfl rfl rfl rfl h5 (fun q hq => .inr (by simp [h6 q hq])))
    refine dGo ?_ (hw := by simp) (o := OpVal.eqStr rfl rfl)
    repeat (first | refine dL ?_ | refine dS ?_ | (first | refine dGo ?_ | refine dSk ?_ | refine dUn ?_ | fail) | (first | refine dPT ?_ | refine dPF ?_ | fail) | refine dV (OpVal.add rfl rfl (i64_in _ (by omega))) ?_ | refine dV (OpVal.sub rfl rfl (i64_in _ (by omega))) ?_ | refine dV (OpVal.neBool tab_ok rfl rfl rfl) ?_ | refine dV (OpVal.eqBool tab_ok rfl rfl rfl) ?_ | refine dV (OpVal.eqNil tab_ok rfl rfl rfl) ?_ | refine dV (OpVal.neNil tab_ok rfl rfl rfl) ?_ | fail)
    refine WD.nil (W.dropNil (aG ?_))
    repeat (first | refine gx ?_ | refine gN fun _ => ?_ | refine gB fun _ => ?_ | fail)
    refine W.order [2] rfl ?_
    refine W.ret (fin _ _ (FinOk.first 1 (.tmp rfl .nil) rfl ?_))
    exact ⟨_, by simp [pack], rfl, hdv2⟩
theorem cOpen_seal {x : List Int} (h : x.length = 16) : cOpen (sealB x) = (x, 0) := by
  have h2 : (sealB x).take 16 = x := by rw [← h]; exact sealB_take x
  unfold cOpen
  rw [if_neg (by rw [sealB_len, h]; decide), h2, if_pos rfl]
theorem cOpen_z : cOpen zcell = (List.replicate 16 0, 0) := cOpen_seal rfl
theorem sealB_ne (x : List Int) : sealB x ≠ [] := fun h => by have := congrArg List.length h; rw [sealB_len] at this; simp at this
theorem write_ok {d : Dv} (hd : d.Ok) (i : Int) {bs : List Int} (hu : u8ok bs) : (d.write i bs).1.Ok := by
  unfold Dv.write
  split
  · split
    · rename_i h
      exact hd.setLater (.inr ⟨by rw [sealB_len, h], sealB_ok hu⟩)
    · exact hd
  · exact hd
theorem lives_read (c : List Int) (hc : c ≠ []) : ((((Dv.new 5).setLater 3 c).crash 0 5 [false]).1.read 3) = cOpen zcell := by
  cases c with
  | nil => exact absurd rfl hc
  | cons x l => kernel_rfl
theorem Lives_spec : Ctr Try.prog 19 [] [] [] (fun v L' => v = .bool true ∧ L' = []) := by
  have hN := DNew_spec 5
  have hok := Dv.new_ok (n := 5) (by decide) (by decide)
  have hW := fun b H h a c r hr => DWrite_spec (Dv.new 5) hok b H h 3 [48, 49, 50, 51, 52, 53, 54, 55, 56, 57, 97, 98, 99, 100, 101, 102] (by unfold u8ok; decide) a c r hr
  have hok2 := write_ok hok 3 (bs := [48, 49, 50, 51, 52, 53, 54, 55, 56, 57, 97, 98, 99, 100, 101, 102]) (by unfold u8ok; decide)
  have hw : (Dv.new 5).write 3 [48, 49, 50, 51, 52, 53, 54, 55, 56, 57, 97, 98, 99, 100, 101, 102] = ((Dv.new 5).setLater 3 (sealB [48, 49, 50, 51, 52, 53, 54, 55, 56, 57, 97, 98, 99, 100, 101, 102]), 0) := rfl
  rw [hw] at hW hok2
  have hne := sealB_ne [48, 49, 50, 51, 52, 53, 54, 55, 56, 57, 97, 98, 99, 100, 101, 102]
  have hrd := lives_read _ hne
  have hok3 := crash_ok hok2 0 5 [false]
  have hR := fun b H h => DRead_spec _ hok3 b H h 3
  rw [hrd, cOpen_z] at hR
  simp only at hW hok2
  have hS := fun a c r hr => SNew_spec [false] (by decide) a c r hr
  refine Ctr.enter (n := 42) [.tmp 0] [] Try.func19 rfl rfl rfl (lb rfl) Try.call19 trivial ?_
  intro cx fin fin0
  refine aG ?_
  repeat (first | refine gx ?_ | refine gN fun _ => ?_ | refine gB fun _ => ?_ | fail)
  refine aC (o := hN) (h := ?_)
  rintro _ _ (⟨h, _⟩ | ⟨_, b, H, rfl, rfl, hdv⟩)
  · exact absurd (show (1 : Int) ≤ 5 ∧ (5 : Int) ≤ 1024 by decide) h
  refine aG ?_
  repeat (first | refine gx ?_ | refine gN fun _ => ?_ | refine gB fun _ => ?_ | fail)
  refine aSl (ps := [_, _, _, _, _, _, _, _, _, _, _, _, _, _, _, _]) ?_
  intro bw
  refine aG ?_
  refine aPr (markOwn tab_ok rfl rfl rfl (List.mem_append_left _ (List.mem_singleton.2 rfl))) ?_
  rintro _ _ ⟨rfl, rfl⟩
  refine aG ?_
  refine aC (o := hW b H hdv (some ⟨bw, 0, none⟩) 16 [(bw, .cells (u8s [48, 49, 50, 51, 52, 53, 54, 55, 56, 57, 97, 98, 99, 100, 101, 102]).toArray 5 (16, 17))] ⟨rfl, .inr ⟨bw, 0, _, _, _, rfl, rfl, by decide, rfl⟩⟩) (h := ?_) (hro := RoIn.own 0 rfl)
  rintro _ _ ⟨H2, rfl, rfl, hdv2⟩
  refine aG ?_
  repeat (first | refine gx ?_ | refine gN fun _ => ?_ | refine gB fun _ => ?_ | fail)
  refine aSl (ps := [_]) ?_
  intro bk
  refine aG ?_
  refine aC (o := hS (some ⟨bk, 0, none⟩) 1 [(bk, .cells #[.bool false] 4 (0, 0))] ⟨rfl, .inr ⟨bk, 0, _, _, _, rfl, rfl, by decide, rfl⟩⟩) (h := ?_) (hro := RoIn.own 0 rfl)
  rintro _ _ ⟨bs, Hs, rfl, rfl, hst⟩
  refine aG ?_
  refine aC (o := DCrash_spec _ hok2 b H2 hdv2 0 5 [false] bs Hs hst) (h := ?_)
  rintro _ _ ⟨H3, Hs3, rfl, h3, hs3⟩
  refine aG ?_
  repeat (first | refine gx ?_ | refine gN fun _ => ?_ | refine gB fun _ => ?_ | fail)
  refine aC (o := hR b H3 h3) (h := ?_) (hro := RoIn.own 0 rfl)
  rintro _ _ ⟨a1, c1, H1, rfl, rfl, ho1⟩
  refine aG ?_
  repeat (first | refine gx ?_ | refine gN fun _ => ?_ | refine gB fun _ => ?_ | fail)
  have e16 : repL 16 [Value.int .u8 0] = u8s (List.replicate 16 0) := rfl
  refine W.drawH tab_ok 13 [.b false, .b false, .b false, .b false, .b false, .b false, .b false, .b false, .b false, .b true, .b true, .b false, .b false] [] follows (by decide +kernel) (by decide +kernel) rfl (by decide) rfl ?_
  intro _
  refine dG ?_
  repeat (first | refine dL ?_ | refine dS ?_ | (first | refine dGo ?_ | refine dSk ?_ | refine dUn ?_ | fail) | (first | refine dPT ?_ | refine dPF ?_ | fail) | refine dV (OpVal.add rfl rfl (i64_in _ (by omega))) ?_ | refine dV (OpVal.sub rfl rfl (i64_in _ (by omega))) ?_ | refine dV (OpVal.neBool tab_ok rfl rfl rfl) ?_ | refine dV (OpVal.eqBool tab_ok rfl rfl rfl) ?_ | refine dV (OpVal.eqNil tab_ok rfl rfl rfl) ?_ | refine dV (OpVal.neNil tab_ok rfl rfl rfl) ?_ | fail)
  refine dGo ?_ (hw := by simp) (o := OpVal.bytesStr tab_ok rfl rfl rfl rfl (Own.roSl ho1) (fun q hq => .inr (by simp [hq])))
  refine WD.guardGoNew rfl rfl rfl (NewOf.mks (bytes := 1) (len := 16) (cap := 16) tab_ok rfl rfl rfl rfl rfl rfl rfl rfl rfl (Nat.le_refl _) (by decide) (by decide)) (lb rfl) ?_
  intro b4
  rw [e16]
  refine dG ?_
  refine dVg (OpVal.bytesStr (bs := List.replicate 16 0) tab_ok rfl rfl rfl rfl ⟨rfl, .inr ⟨b4, 0, u8s (List.replicate 16 0), _, _, rfl, rfl, by decide, rfl⟩⟩ (fun q hq => .inl (by rw [List.mem_singleton.1 hq]; exact List.mem_append_left _ (List.mem_singleton.2 rfl)))) ?_
  refine dGo ?_ (hw := by simp) (o := OpVal.eqStr rfl rfl)
  repeat (first | refine dL ?_ | refine dS ?_ | (first | refine dGo ?_ | refine dSk ?_ | refine dUn ?_ | fail) | (first | refine dPT ?_ | refine dPF ?_ | fail) | refine dV (OpVal.add rfl rfl (i64_in _ (by omega))) ?_ | refine dV (OpVal.sub rfl rfl (i64_in _ (by omega))) ?_ | refine dV (OpVal.neBool tab_ok rfl rfl rfl) ?_ | refine dV (OpVal.eqBool tab_ok rfl rfl rfl) ?_ | refine dV (OpVal.eqNil tab_ok rfl rfl rfl) ?_ | refine dV (OpVal.neNil tab_ok rfl rfl rfl) ?_ | fail)
  refine WD.nil (W.dropNil (aG ?_))
  repeat (first | refine gx ?_ | refine gN fun _ => ?_ | refine gB fun _ => ?_ | fail)
  refine W.ret (fin _ _ (FinOk.mk' ([]) (.tmp rfl .nil) (by repeat (first | exact Sel.nil | (apply Sel.cons; (repeat (first | exact Pick.here | apply Pick.there))))) rfl ?_))
  exact ⟨by simp [pack], rfl⟩
end Go.Proofs.Ytpimbaphenignaa
