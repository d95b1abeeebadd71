/-
  What is done, of both.
-/
import Derived.Test.YtpimbaphenignaaVr
import Derived.Test.YtpimbaphenignaaPk
import Derived.Test.YtpimbaphenignaaAr
import Derived.Test.YtpimbaphenignaaOp
namespace Go.Proofs.Ytpimbaphenignaa
open Go Go.Sl Go.IntWalk
set_option maxHeartbeats 8000000
set_option maxRecDepth 20000
set_option linter.unusedVariables false
structure OD where
  d : Int
  at_ : Int
  to : Int
  b : SlD Int
  keep : SlD Bool
def OD.l (o : OD) : List Value := [.int .i64 o.d, .int .i64 o.at_, .int .i64 o.to, .slice o.b.a o.b.xs.length o.b.cap, .slice o.keep.a o.keep.xs.length o.keep.cap]
structure OD.Ok (o : OD) : Prop where
  d : i64s o.d
  at_ : i64s o.at_
  to : i64s o.to
  ro : RoSl 1 (u8s o.b.xs) o.b.a o.b.xs.length o.b.ro
  u8 : u8ok o.b.xs
  cap : o.b.xs.length ≤ o.b.cap
  kro : RoSl 1 (bls o.keep.xs) o.keep.a o.keep.xs.length o.keep.ro
  kcap : o.keep.xs.length ≤ o.keep.cap
def OD.ro_ (o : OD) : HL := o.b.ro ++ o.keep.ro
def OD.of (q : Int × Int × Int × SlD Int × SlD Bool × Unit) : OD := ⟨q.1, q.2.1, q.2.2.1, q.2.2.2.1, q.2.2.2.2.1⟩
def ros (os : List OD) : HL := os.flatMap OD.ro_
section
variable {H : Type} {enc : TypeId × Value → H} {w : World} {spare : Nat → Bool} {held : Bool}
theorem opens_O : ∃ f Ok, Opens enc Try.prog w spare held 32 5 f Ok ∧ ∀ q, f q = (OD.of q).l ∧ (Ok q → (OD.of q).Ok ∧ ∀ p ∈ (OD.of q).ro_, w.heap[p.1]? = some p.2) := by
  have hi : Opens enc Try.prog w spare held 3 1 (fun i => [Value.int .i64 i]) i64s := Opens.int Try.underlying3 (by kernel_rfl) (fun _ h => wf_i64 h)
  have hb : Opens enc Try.prog w spare held 5 1 (fun i => [Value.int .u8 i]) (fun x => 0 ≤ x ∧ x < 256) := Opens.int Try.underlying5 (by kernel_rfl) (fun _ h => wf_u8 h)
  have hk : Opens enc Try.prog w spare held 4 1 (fun b => [Value.bool b]) (fun _ => True) := Opens.bool Try.underlying4 (by kernel_rfl)
  refine ⟨_, _, Opens.st (OpenF.cons hi (OpenF.cons hi (OpenF.cons hi (OpenF.cons (Opens.sl hb (by decide) Try.underlying30 (by kernel_rfl)) (OpenF.cons (Opens.sl hk (by decide) Try.underlying23 (by kernel_rfl)) OpenF.nil))))) Try.underlying32 (by kernel_rfl) (by kernel_rfl) ?_, fun q => ⟨rfl, ?_⟩⟩
  · intro q hq
    have h1 : Try.prog.cellsOf 3 = 1 := by kernel_rfl
    have h2 : Try.prog.cellsOf 30 = 1 := by kernel_rfl
    have h3 : Try.prog.cellsOf 23 = 1 := by kernel_rfl
    simp only [List.mem_cons, List.not_mem_nil, or_false] at hq
    rcases hq with rfl | rfl | rfl | rfl | rfl <;> first | exact h1 | exact h2 | exact h3
  · rintro ⟨h1, h2, h3, h6, h7, _⟩
    exact ⟨⟨h1, h2, h3, h6.ro, h6.all, h6.cap, h7.ro, h7.cap⟩, fun p hp => (List.mem_append.1 hp).elim (h6.mem p) (h7.mem p)⟩
theorem open_Os {t : Nat} (ht : Try.prog.underlying t = some (.slice 32)) (hct : Try.prog.cellsOf t = 1) {r : Reach} {b0 : Nat} {v : Value} {d : DataW H} {ps : List MemPlace} (hok : Value.okWide Try.prog w r b0 t v) (h : DataW.Trod enc Try.prog w 0 spare held t v d ps) :
    ∃ (os : List OD) (a : Option Addr) (cap : Nat) (ro : HL), v = .slice a os.length cap ∧ RoSl 5 (os.flatMap OD.l) a os.length ro ∧ (∀ p ∈ ro ++ ros os, w.heap[p.1]? = some p.2) ∧ (∀ o ∈ os, OD.Ok o) := by
  obtain ⟨f, Ok, hop, hq⟩ := opens_O (enc := enc) (w := w) (spare := spare) (held := held)
  obtain ⟨s, rfl, hs⟩ := Opens.argSl hop (by decide) ht hct hok h
  refine ⟨s.xs.map OD.of, s.a, s.cap, s.ro, by rw [List.length_map], ?_, fun p hp => ?_, fun o ho => ?_⟩
  · have e : (s.xs.map OD.of).flatMap OD.l = s.xs.flatMap f := by
      rw [List.flatMap_map]
      congr 1
      funext x
      exact ((hq x).1).symm
    rw [e, List.length_map]
    exact hs.ro
  · rcases List.mem_append.1 hp with hp | hp
    · exact hs.mem p hp
    · obtain ⟨o, ho, hpo⟩ := List.mem_flatMap.1 hp
      obtain ⟨x, hx, rfl⟩ := List.mem_map.1 ho
      exact ((hq x).2 (hs.all x hx)).2 p hpo
  · obtain ⟨x, hx, rfl⟩ := List.mem_map.1 ho
    exact ((hq x).2 (hs.all x hx)).1
end
def OD.bytes (o : OD) : List Int := if o.to.tmod 7 = 6 then o.b.xs.take 20 else fill o.b.xs 16
theorem OD.bytes_ok {o : OD} (h : o.Ok) : u8ok o.bytes := by
  unfold OD.bytes
  split
  · exact fun x hx => h.u8 x (List.mem_of_mem_take hx)
  · exact fill_ok h.u8 16
theorem OD.bytes_len (o : OD) : o.bytes.length ≤ 20 := by
  unfold OD.bytes
  split
  · rw [List.length_take]; omega
  · rw [fill_len]; omega
def OD.by_ (o : OD) : Nat := (o.d % 256).toNat
theorem OD.by_lt (o : OD) : o.by_ < 256 := by unfold OD.by_; omega
def Dv.doO (d : Dv) (o : OD) : Dv :=
  if around o.d 10 = 6 then d.barrier (around o.at_ (d.lasts.length + 2) - 1) (around o.to (d.lasts.length + 2))
  else if around o.d 10 = 7 then (d.crash (around o.at_ (d.lasts.length + 2) - 1) (around o.to (d.lasts.length + 2)) (o.keep.xs.take 9)).1
  else if around o.d 10 = 8 then (d.turn (around o.at_ (d.lasts.length + 2) - 1) o.to o.by_).1
  else if around o.d 10 = 9 then ⟨d.lasts, d.later, o.b.xs.take 30⟩
  else (d.write (around o.at_ (d.lasts.length + 2) - 1) o.bytes).1
theorem turn_ok {d : Dv} (hd : d.Ok) (i place : Int) {by_ : Nat} (hb : by_ < 256) : (d.turn i place by_).1.Ok := by
  unfold Dv.turn
  split
  · rename_i h
    obtain ⟨h1, h2⟩ := hd.last h.1
    exact hd.setLast ⟨by rw [flipB_len, h1], flipB_ok h2 place hb⟩
  · exact hd
theorem doO_ok {d : Dv} (hd : d.Ok) {o : OD} (ho : o.Ok) : (d.doO o).Ok := by
  unfold Dv.doO
  split
  · exact barrier_ok hd _ _
  · split
    · exact crash_ok hd _ _ _
    · split
      · exact turn_ok hd _ _ o.by_lt
      · split
        · exact ⟨hd.len, hd.n, hd.lu, hd.tu, fun x hx => ho.u8 x (List.mem_of_mem_take hx), by show (o.b.xs.take 30).length ≤ 100000; rw [List.length_take]; omega⟩
        · exact write_ok hd _ (OD.bytes_ok ho)
theorem does_spec (d : Dv) (hd : d.Ok) (b : Nat) (H : HL) (h : DevAt d b H) (v : Value) (D : HL) (hdoc : DocD d v D) (o : OD) (ho : o.Ok) :
    Ctr Try.prog 26 [.pointer (some ⟨b, 0, none⟩), v, .agg o.l.toArray] [H] (D ++ o.ro_)
    (fun v' L' => ∃ H' Hd v1, v' = .tuple #[v1, .bool true] ∧ L' = [H', Hd] ∧ DevAt (d.doO o) b H' ∧ DocD (d.doO o) v1 (Hd ++ D)) := by
  have hn := hd.n
  have hA1 := Around_spec o.at_ (d.lasts.length + 2) ho.at_ (by omega)
  have hA2 := Around_spec o.to (d.lasts.length + 2) ho.to (by omega)
  have hA3 := Around_spec o.d 10 ho.d (by decide)
  have r1 := around_range o.at_ (d.lasts.length + 2) (by omega)
  have r2 := around_range o.to (d.lasts.length + 2) (by omega)
  have r3 := around_range o.d 10 (by decide)
  have hbd := OD.bytes_ok ho
  have hbl := o.bytes_len
  have hop : d.doO o = d.doO o := rfl
  conv at hop => rhs; unfold Dv.doO
  generalize d.doO o = out at *
  generalize around o.at_ (d.lasts.length + 2) = a1 at *
  generalize around o.to (d.lasts.length + 2) = a2 at *
  generalize around o.d 10 = k at *
  have hdoc' := hdoc
  obtain ⟨a, c, at_, ct, ah, ch, rfl, h2, h3, h4⟩ := hdoc
  have hsubb : ∀ q ∈ o.b.ro, q ∈ D ++ o.ro_ := fun q hq => List.mem_append_right _ (List.mem_append_left _ hq)
  have hsubk : ∀ q ∈ o.keep.ro, q ∈ D ++ o.ro_ := fun q hq => List.mem_append_right _ (List.mem_append_right _ hq)
  by_cases k6 : k = 6
  · rw [if_pos k6] at hop
    subst hop
    have hB := DBarrier_spec d hd b H h (a1 - 1) a2
    have hB2 := RBarrier_spec d hd _ D hdoc' (a1 - 1) a2
    refine Ctr.enter (n := 143) [.cell 6 53, .tmp 7] [(0, _), (1, _), (2, _)] Try.func26 rfl rfl rfl (lb rfl) Try.call26 ⟨rfl, rfl, rfl, trivial⟩ ?_
    intro cx fin fin0
    refine aG ?_
    repeat (first | refine gx ?_ | refine gN fun _ => ?_ | refine gB fun _ => ?_ | fail)
    rename_i b4 b5 b6
    refine aC (o := hA1) (h := ?_) (hro := RoIn.nil)
    rintro _ _ ⟨rfl, rfl⟩
    refine aG ?_
    repeat (first | refine gx ?_ | refine gN fun _ => ?_ | refine gB fun _ => ?_ | fail)
    refine aC (o := hA2) (h := ?_) (hro := RoIn.nil)
    rintro _ _ ⟨rfl, rfl⟩
    refine aG ?_
    repeat (first | refine gx ?_ | refine gN fun _ => ?_ | refine gB fun _ => ?_ | fail)
    refine aC (o := hA3) (h := ?_) (hro := RoIn.nil)
    rintro _ _ ⟨rfl, rfl⟩
    refine aG ?_
    repeat (first | refine gh k6 ?_ | refine gN fun _ => ?_ | refine gB fun _ => ?_ | fail)
    refine aC (o := hB) (h := ?_)
    rintro _ _ ⟨H2, rfl, hdv⟩
    refine aG ?_
    repeat (first | refine gx ?_ | refine gN fun _ => ?_ | refine gB fun _ => ?_ | fail)
    refine aC (o := hB2) (h := ?_) (hro := RoIn.all (fun q hq => List.mem_append_left _ hq))
    rintro _ _ ⟨Hd, rfl, a5, c5, at5, ct5, ah5, ch5, rfl, g2, g3, g4⟩
    refine aG ?_
    repeat (first | refine gx ?_ | refine gN fun _ => ?_ | refine gB fun _ => ?_ | fail)
    refine W.groupV [1] rfl ?_
    refine W.ret (fin _ _ (FinOk.first 2 (aRc (.tmp rfl .nil)) rfl ?_))
    exact ⟨_, _, _, rfl, rfl, hdv, _, _, _, _, _, _, rfl, g2, g3, g4⟩
  · rw [if_neg k6] at hop
    by_cases k7 : k = 7
    · rw [if_pos k7] at hop
      subst hop
      have e9 : (o.keep.xs.take 9).length = min o.keep.xs.length 9 := by rw [List.length_take]; omega
      have hmin : (if (9 : Int) < (o.keep.xs.length : Int) then (9 : Int) else (o.keep.xs.length : Int)) = ((min o.keep.xs.length 9 : Nat) : Int) := by split <;> omega
      have hk2 : RoSl 1 (bls (o.keep.xs.take 9)) o.keep.a (min o.keep.xs.length 9) o.keep.ro := by
        have := RoSl.take (f := fun x : Bool => [Value.bool x]) (fun _ => rfl) ho.kro (min o.keep.xs.length 9) (by omega)
        rwa [show o.keep.xs.take (min o.keep.xs.length 9) = o.keep.xs.take 9 by rw [List.take_eq_take_iff]; omega] at this
      have hkc := ho.kcap
      rw [← e9] at hmin hk2
      have h9 : (o.keep.xs.take 9).length ≤ 9 := by rw [List.length_take]; omega
      have h9c : (o.keep.xs.take 9).length ≤ o.keep.cap := by omega
      have h9l : (o.keep.xs.take 9).length ≤ o.keep.xs.length := by omega
      generalize o.keep.xs.take 9 = kp at *
      have hS := SNew_spec kp (by omega) o.keep.a o.keep.cap o.keep.ro hk2
      have hC := fun bs Hs hs => DCrash_spec d hd b H h (a1 - 1) a2 kp bs Hs hs
      have hC2 := RCrash_spec d hd _ D hdoc' (a1 - 1) a2 kp _ o.keep.ro ⟨o.keep.a, o.keep.cap, 0, rfl, h9c, by omega, _, hk2, fun q hq => hq⟩
      have hLf := fun bs Hs hs => SLeft_spec (d.crash (a1 - 1) a2 kp).2 bs Hs hs
      refine Ctr.enter (n := 143) [.cell 6 53, .tmp 7] [(0, _), (1, _), (2, _)] Try.func26 rfl rfl rfl (lb rfl) Try.call26 ⟨rfl, rfl, rfl, trivial⟩ ?_
      intro cx fin fin0
      refine aG ?_
      repeat (first | refine gx ?_ | refine gN fun _ => ?_ | refine gB fun _ => ?_ | fail)
      rename_i b4 b5 b6
      refine aC (o := hA1) (h := ?_) (hro := RoIn.nil)
      rintro _ _ ⟨rfl, rfl⟩
      refine aG ?_
      repeat (first | refine gx ?_ | refine gN fun _ => ?_ | refine gB fun _ => ?_ | fail)
      refine aC (o := hA2) (h := ?_) (hro := RoIn.nil)
      rintro _ _ ⟨rfl, rfl⟩
      refine aG ?_
      repeat (first | refine gx ?_ | refine gN fun _ => ?_ | refine gB fun _ => ?_ | fail)
      refine aC (o := hA3) (h := ?_) (hro := RoIn.nil)
      rintro _ _ ⟨rfl, rfl⟩
      refine aG ?_
      have k7' : ¬ k = 6 := k6
      repeat (first | refine gh (gc2 k6 k7) ?_ | refine gN fun _ => ?_ | refine gB fun _ => ?_ | fail)
      refine aV (OpVal.min2 rfl rfl) ?_
      refine aV (OpVal.front tab_ok rfl rfl rfl rfl hmin h9c) ?_
      refine aC (o := hS) (h := ?_) (hro := RoIn.all (fun q hq => hsubk q hq))
      rintro _ _ ⟨bs, Hs, rfl, rfl, hst⟩
      refine aG ?_
      repeat (first | refine gx ?_ | refine gN fun _ => ?_ | refine gB fun _ => ?_ | fail)
      refine aC (o := hC bs Hs hst) (h := ?_)
      rintro _ _ ⟨H2, Hs2, rfl, hdv, hst2⟩
      refine aG ?_
      repeat (first | refine gx ?_ | refine gN fun _ => ?_ | refine gB fun _ => ?_ | fail)
      refine aBu (ps := [_]) ?_
      refine aC (o := hC2) (h := ?_) (hro := RoIn.all (fun q hq => (List.mem_append.1 hq).elim (fun h => List.mem_append_left _ h) (hsubk q)))
      rintro _ _ ⟨Hd, vd, vs, rfl, rfl, ⟨a5, c5, at5, ct5, ah5, ch5, rfl, g2, g3, g4⟩, ak, ck, nk, rfl, q1, q2, rk, q3, q4⟩
      refine aG ?_
      repeat (first | refine gx ?_ | refine gN fun _ => ?_ | refine gB fun _ => ?_ | fail)
      rename_i b13
      refine W.drawH tab_ok 7 [.b false, .b false, .b true, .b false, .b false, .b true, .b true] [4,5] follows (by decide +kernel) (by decide +kernel) rfl (by decide) rfl ?_
      intro _
      refine dG ?_
      repeat (first | refine dL ?_ | refine dS ?_ | (first | refine dGo ?_ | refine dSk ?_ | refine dUn ?_ | fail) | (first | refine dPT ?_ | refine dPF ?_ | fail) | refine dV (OpVal.add rfl rfl (i64_in _ (by omega))) ?_ | refine dV (OpVal.sub rfl rfl (i64_in _ (by omega))) ?_ | refine dV (OpVal.neBool tab_ok rfl rfl rfl) ?_ | refine dV (OpVal.eqBool tab_ok rfl rfl rfl) ?_ | refine dV (OpVal.eqNil tab_ok rfl rfl rfl) ?_ | refine dV (OpVal.neNil tab_ok rfl rfl rfl) ?_ | fail)
      refine dC (o := hLf bs Hs2 hst2) (h := ?_)
      rintro _ _ ⟨al, cl, H8, rfl, rfl, ho8⟩
      refine dG ?_
      repeat (first | refine dL ?_ | refine dS ?_ | (first | refine dGo ?_ | refine dSk ?_ | refine dUn ?_ | fail) | (first | refine dPT ?_ | refine dPF ?_ | fail) | refine dV (OpVal.add rfl rfl (i64_in _ (by omega))) ?_ | refine dV (OpVal.sub rfl rfl (i64_in _ (by omega))) ?_ | refine dV (OpVal.neBool tab_ok rfl rfl rfl) ?_ | refine dV (OpVal.eqBool tab_ok rfl rfl rfl) ?_ | refine dV (OpVal.eqNil tab_ok rfl rfl rfl) ?_ | refine dV (OpVal.neNil tab_ok rfl rfl rfl) ?_ | fail)
      refine dC (o := Same_spec _ (by omega) al ak cl ck H8 rk (Own.roSl ho8) q3) (h := ?_) (hro := RoIn.append (RoIn.own 0 rfl) (RoIn.all fun q hq => by simp [hsubk q (q4 q hq)]))
      rintro _ _ ⟨rfl, rfl⟩
      refine dG ?_
      repeat (first | refine dL ?_ | refine dS ?_ | (first | refine dGo ?_ | refine dSk ?_ | refine dUn ?_ | fail) | (first | refine dPT ?_ | refine dPF ?_ | fail) | refine dV (OpVal.add rfl rfl (i64_in _ (by omega))) ?_ | refine dV (OpVal.sub rfl rfl (i64_in _ (by omega))) ?_ | refine dV (OpVal.neBool tab_ok rfl rfl rfl) ?_ | refine dV (OpVal.eqBool tab_ok rfl rfl rfl) ?_ | refine dV (OpVal.eqNil tab_ok rfl rfl rfl) ?_ | refine dV (OpVal.neNil tab_ok rfl rfl rfl) ?_ | fail)
      refine WD.nil (W.dropNil (aG ?_))
      repeat (first | refine gx ?_ | refine gN fun _ => ?_ | refine gB fun _ => ?_ | fail)
      refine W.groupV [5] rfl ?_
      refine W.groupV [6] rfl ?_
      refine W.ret (fin _ _ (FinOk.first 2 (aRc (.tmp rfl .nil)) rfl ?_))
      exact ⟨_, _, _, rfl, rfl, hdv, _, _, _, _, _, _, rfl, g2, g3, g4⟩
    · rw [if_neg k7] at hop
      by_cases k8 : k = 8
      · rw [if_pos k8] at hop
        subst hop
        have hcv : IntKind.u8.wrap o.d = ((o.by_ : Nat) : Int) := by rw [IntKind.wrap_u8]; unfold OD.by_; omega
        have hT := DTurn_spec d hd b H h (a1 - 1) o.to o.by_ o.by_lt
        have hT2 := RTurn_spec d hd _ D hdoc' (a1 - 1) o.to o.by_ o.by_lt
        refine Ctr.enter (n := 143) [.cell 6 53, .tmp 7] [(0, _), (1, _), (2, _)] Try.func26 rfl rfl rfl (lb rfl) Try.call26 ⟨rfl, rfl, rfl, trivial⟩ ?_
        intro cx fin fin0
        refine aG ?_
        repeat (first | refine gx ?_ | refine gN fun _ => ?_ | refine gB fun _ => ?_ | fail)
        rename_i b4 b5 b6
        refine aC (o := hA1) (h := ?_) (hro := RoIn.nil)
        rintro _ _ ⟨rfl, rfl⟩
        refine aG ?_
        repeat (first | refine gx ?_ | refine gN fun _ => ?_ | refine gB fun _ => ?_ | fail)
        refine aC (o := hA2) (h := ?_) (hro := RoIn.nil)
        rintro _ _ ⟨rfl, rfl⟩
        refine aG ?_
        repeat (first | refine gx ?_ | refine gN fun _ => ?_ | refine gB fun _ => ?_ | fail)
        refine aC (o := hA3) (h := ?_) (hro := RoIn.nil)
        rintro _ _ ⟨rfl, rfl⟩
        refine aG ?_
        repeat (first | refine gh (gc3 k6 k7 k8) ?_ | refine gN fun _ => ?_ | refine gB fun _ => ?_ | fail)
        refine aV (OpVal.conv tab_ok rfl rfl rfl hcv) ?_
        refine aC (o := hT2) (h := ?_) (hro := RoIn.all (fun q hq => List.mem_append_left _ hq))
        rintro _ _ ⟨v1, Hd, rfl, rfl, a5, c5, at5, ct5, ah5, ch5, rfl, g2, g3, g4⟩
        refine aG ?_
        repeat (first | refine gx ?_ | refine gN fun _ => ?_ | refine gB fun _ => ?_ | fail)
        rename_i b14
        refine aV (OpVal.conv tab_ok rfl rfl rfl hcv) ?_
        refine aC (o := hT) (h := ?_)
        rintro _ _ ⟨H2, rfl, rfl, hdv⟩
        refine aG ?_
        repeat (first | refine gx ?_ | refine gN fun _ => ?_ | refine gB fun _ => ?_ | fail)
        refine W.groupV [2] rfl ?_
        refine W.groupV [1] rfl ?_
        refine W.ret (fin _ _ (FinOk.first 2 (aRc (.tmp rfl .nil)) rfl ?_))
        refine ⟨_, _, _, ?_, rfl, hdv, a5, c5, at5, ct5, ah5, ch5, rfl, g2, g3, g4⟩
        simp [pack]
      · rw [if_neg k8] at hop
        by_cases k9 : k = 9
        · rw [if_pos k9] at hop
          subst hop
          have hF := Few_spec o.b.xs o.b.a o.b.cap ho.cap o.b.ro ho.ro 30 (by decide) (by decide)
          rw [show (30 : Int).toNat = 30 from rfl] at hF
          have h30 : (o.b.xs.take 30).length ≤ 30 := by rw [List.length_take]; omega
          have hS := fun a2 c2 H2 (ho2 : Own 1 5 (u8s (o.b.xs.take 30)) a2 (o.b.xs.take 30).length c2 H2) => DSetHead_spec d hd b H h (o.b.xs.take 30) (by omega) a2 c2 H2 (Own.roSl ho2)
          refine Ctr.enter (n := 143) [.cell 6 53, .tmp 7] [(0, _), (1, _), (2, _)] Try.func26 rfl rfl rfl (lb rfl) Try.call26 ⟨rfl, rfl, rfl, trivial⟩ ?_
          intro cx fin fin0
          refine aG ?_
          repeat (first | refine gx ?_ | refine gN fun _ => ?_ | refine gB fun _ => ?_ | fail)
          rename_i b4 b5 b6
          refine aC (o := hA1) (h := ?_) (hro := RoIn.nil)
          rintro _ _ ⟨rfl, rfl⟩
          refine aG ?_
          repeat (first | refine gx ?_ | refine gN fun _ => ?_ | refine gB fun _ => ?_ | fail)
          refine aC (o := hA2) (h := ?_) (hro := RoIn.nil)
          rintro _ _ ⟨rfl, rfl⟩
          refine aG ?_
          repeat (first | refine gx ?_ | refine gN fun _ => ?_ | refine gB fun _ => ?_ | fail)
          refine aC (o := hA3) (h := ?_) (hro := RoIn.nil)
          rintro _ _ ⟨rfl, rfl⟩
          refine aG ?_
          repeat (first | refine gh (gc4 k6 k7 k8 k9) ?_ | refine gN fun _ => ?_ | refine gB fun _ => ?_ | fail)
          refine aC (o := hF) (h := ?_) (hro := RoIn.all (fun q hq => hsubb q hq))
          rintro _ _ ⟨a6, c6, H6, rfl, rfl, ho6⟩
          refine aG ?_
          repeat (first | refine gx ?_ | refine gN fun _ => ?_ | refine gB fun _ => ?_ | fail)
          refine aC (o := hF) (h := ?_) (hro := RoIn.all (fun q hq => hsubb q hq))
          rintro _ _ ⟨a7, c7, H7, rfl, rfl, ho7⟩
          refine aG ?_
          refine aC (o := hS a7 c7 H7 ho7) (h := ?_) (hro := RoIn.own 0 rfl)
          rintro _ _ ⟨H2, rfl, hdv⟩
          refine aG ?_
          repeat (first | refine gx ?_ | refine gN fun _ => ?_ | refine gB fun _ => ?_ | fail)
          refine W.groupV [2] rfl ?_
          refine W.groupV [1] rfl ?_
          refine W.ret (fin _ _ (FinOk.first 2 (aRc (.tmp rfl .nil)) rfl ?_))
          exact ⟨_, _, _, rfl, rfl, hdv, _, _, _, _, _, _, rfl, h2.mono fun q hq => List.mem_append_right _ hq, h3.mono fun q hq => List.mem_append_right _ hq, by rcases ho6.2 with ⟨_, h0, _⟩ | ⟨_, _, _, _, h0, _⟩ <;> (show (o.b.xs.take 30).length ≤ c6; omega), H6, Own.roSl ho6, fun q hq => List.mem_append_left _ hq⟩
        · rw [if_neg k9] at hop
          subst hop
          have hF := Few_spec o.b.xs o.b.a o.b.cap ho.cap o.b.ro ho.ro 20 (by decide) (by decide)
          rw [show (20 : Int).toNat = 20 from rfl] at hF
          have hFi := Fill_spec o.b.xs o.b.a o.b.cap o.b.ro ho.ro 16 (by decide) (by decide)
          rw [show (16 : Int).toNat = 16 from rfl] at hFi
          have e16 : (16 : Nat) = (fill o.b.xs 16).length := (fill_len _ _).symm
          have hob : ∀ bs, o.bytes = bs → u8ok bs ∧ bs.length ≤ 20 := fun bs e => by rw [← e]; exact ⟨hbd, hbl⟩
          have ho5 : (o.to.tmod 7 = 6 → o.bytes = o.b.xs.take 20) ∧ (¬ o.to.tmod 7 = 6 → o.bytes = fill o.b.xs 16) := by
            unfold OD.bytes
            exact ⟨fun h => by rw [if_pos h], fun h => by rw [if_neg h]⟩
          refine Ctr.enter (n := 143) [.cell 6 53, .tmp 7] [(0, _), (1, _), (2, _)] Try.func26 rfl rfl rfl (lb rfl) Try.call26 ⟨rfl, rfl, rfl, trivial⟩ ?_
          intro cx fin fin0
          refine aG ?_
          repeat (first | refine gx ?_ | refine gN fun _ => ?_ | refine gB fun _ => ?_ | fail)
          rename_i b4 b5 b6
          refine aC (o := hA1) (h := ?_) (hro := RoIn.nil)
          rintro _ _ ⟨rfl, rfl⟩
          refine aG ?_
          repeat (first | refine gx ?_ | refine gN fun _ => ?_ | refine gB fun _ => ?_ | fail)
          refine aC (o := hA2) (h := ?_) (hro := RoIn.nil)
          rintro _ _ ⟨rfl, rfl⟩
          refine aG ?_
          repeat (first | refine gx ?_ | refine gN fun _ => ?_ | refine gB fun _ => ?_ | fail)
          refine aC (o := hA3) (h := ?_) (hro := RoIn.nil)
          rintro _ _ ⟨rfl, rfl⟩
          refine aG ?_
          repeat (first | refine gh (gc4 k6 k7 k8 k9) ?_ | refine gN fun _ => ?_ | refine gB fun _ => ?_ | fail)
          refine aC (o := hFi) (h := ?_) (hro := RoIn.all (fun q hq => hsubb q hq))
          rintro _ _ ⟨a6, c6, H6, rfl, rfl, ho6⟩
          refine aG ?_
          repeat (first | refine gx ?_ | refine gN fun _ => ?_ | refine gB fun _ => ?_ | fail)
          refine aV (OpVal.rem rfl rfl (by omega) rfl) ?_
          by_cases k5 : o.to.tmod 7 = 6
          case' pos =>
            have eb := ho5.1 k5
            obtain ⟨hbd, hbl⟩ := hob _ (ho5.1 k5)
            repeat (first | refine gh k5 ?_ | refine gN fun _ => ?_ | refine gB fun _ => ?_ | fail)
            refine aC (o := hF) (h := ?_) (hro := RoIn.all (fun q hq => hsubb q hq))
            rintro _ _ ⟨a7, c7, H7, rfl, rfl, ho7⟩
            refine aG ?_
            generalize o.b.xs.take 20 = bs at *
            have hW := DWrite_spec d hd b H h (a1 - 1) bs hbd a7 c7 H7 (Own.roSl ho7)
            have hW2 := RWrite_spec d hd _ D hdoc' (a1 - 1) bs hbd (by omega) a7 c7 H7 (Own.roSl ho7)
            refine W.order [0, 1, 1, 1, 1] rfl ?_
          case' neg =>
            have eb := ho5.2 k5
            obtain ⟨hbd, hbl⟩ := hob _ (ho5.2 k5)
            repeat (first | refine gh k5 ?_ | refine gN fun _ => ?_ | refine gB fun _ => ?_ | fail)
            obtain ⟨a7, c7, H7, rfl, rfl, rfl⟩ : ∃ a c H, a = a6 ∧ c = c6 ∧ H = H6 := ⟨_, _, _, rfl, rfl, rfl⟩
            have ho7 := ho6
            clear ho6 hFi
            generalize fill o.b.xs 16 = bs at *
            rw [e16] at ho7
            have hW := DWrite_spec d hd b H h (a1 - 1) bs hbd a7 c7 H7 (Own.roSl ho7)
            have hW2 := RWrite_spec d hd _ D hdoc' (a1 - 1) bs hbd (by omega) a7 c7 H7 (Own.roSl ho7)
            rw [← e16] at hW hW2
          all_goals
            repeat (first | refine gx ?_ | refine gN fun _ => ?_ | refine gB fun _ => ?_ | fail)
            refine aC (o := hW2) (h := ?_) (hro := RoIn.append (RoIn.all fun q hq => List.mem_append_left _ hq) (RoIn.own 0 rfl))
            rintro _ _ ⟨v1, Hd, rfl, rfl, a5, c5, at5, ct5, ah5, ch5, rfl, g2, g3, g4⟩
            refine aG ?_
            repeat (first | refine gx ?_ | refine gN fun _ => ?_ | refine gB fun _ => ?_ | fail)
            refine W.drawH tab_ok 8 [.b false, .b false, .b false, .b false, .b true, .b false, .b false, .b true] [3,6] follows (by decide +kernel) (by decide +kernel) rfl (by decide) rfl ?_
            intro _
            refine dG ?_
            repeat (first | refine dL ?_ | refine dS ?_ | (first | refine dGo ?_ | refine dSk ?_ | refine dUn ?_ | fail) | (first | refine dPT ?_ | refine dPF ?_ | fail) | refine dV (OpVal.add rfl rfl (i64_in _ (by omega))) ?_ | refine dV (OpVal.sub rfl rfl (i64_in _ (by omega))) ?_ | refine dV (OpVal.neBool tab_ok rfl rfl rfl) ?_ | refine dV (OpVal.eqBool tab_ok rfl rfl rfl) ?_ | refine dV (OpVal.eqNil tab_ok rfl rfl rfl) ?_ | refine dV (OpVal.neNil tab_ok rfl rfl rfl) ?_ | fail)
            refine dC (o := hW) (h := ?_) (hro := RoIn.all (fun q hq => by simp [hq]))
            rintro _ _ ⟨H2, rfl, rfl, hdv⟩
            refine dG ?_
            repeat (first | refine dL ?_ | refine dS ?_ | (first | refine dGo ?_ | refine dSk ?_ | refine dUn ?_ | fail) | (first | refine dPT ?_ | refine dPF ?_ | fail) | refine dV (OpVal.add rfl rfl (i64_in _ (by omega))) ?_ | refine dV (OpVal.sub rfl rfl (i64_in _ (by omega))) ?_ | refine dV (OpVal.neBool tab_ok rfl rfl rfl) ?_ | refine dV (OpVal.eqBool tab_ok rfl rfl rfl) ?_ | refine dV (OpVal.eqNil tab_ok rfl rfl rfl) ?_ | refine dV (OpVal.neNil tab_ok rfl rfl rfl) ?_ | fail)
            refine WD.nil (W.dropNil (aG ?_))
            repeat (first | refine gx ?_ | refine gN fun _ => ?_ | refine gB fun _ => ?_ | fail)
            refine W.groupV [3] rfl ?_
            refine W.groupV [1] rfl ?_
            refine W.ret (fin _ _ (FinOk.first 2 (aRc (.tmp rfl .nil)) rfl ?_))
            rw [eb]
            refine ⟨_, _, _, ?_, rfl, hdv, a5, c5, at5, ct5, ah5, ch5, rfl, g2, g3, g4⟩
            simp [pack]
end Go.Proofs.Ytpimbaphenignaa
