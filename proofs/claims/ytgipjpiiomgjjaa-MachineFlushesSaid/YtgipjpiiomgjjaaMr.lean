/-
  Requests as they come in; what comes of them is the document's.
-/
import Derived.Test.YtgipjpiiomgjjaaMo
import Derived.Test.YtgipjpiiomgjjaaOp
namespace Go.Proofs.Ytgipjpiiomgjjaa
open Go Go.Sl Go.IntWalk
set_option maxHeartbeats 8000000
set_option maxRecDepth 20000
structure QD where
  op : Int
  page : Int
  off : Int
  len : Int
  b : SlD Int
def QD.l (o : QD) : List Value := [.int .i64 o.op, .int .i64 o.page, .int .i64 o.off, .int .i64 o.len, .slice o.b.a o.b.xs.length o.b.cap]
structure QD.Ok (o : QD) : Prop where
  inn : Rq.In ⟨o.op, o.page, o.off, o.len, o.b.xs⟩
  ro : RoSl 1 (u8s o.b.xs) o.b.a o.b.xs.length o.b.ro
  u8 : u8ok o.b.xs
def QD.q (o : QD) : Rq := ⟨o.op, o.page, o.off, o.len, o.b.xs⟩
def QD.of (q : Int × Int × Int × Int × SlD Int × Unit) : QD := ⟨q.1, q.2.1, q.2.2.1, q.2.2.2.1, q.2.2.2.2.1⟩
def qros (os : List QD) : HL := os.flatMap (·.b.ro)
section
variable {H : Type} {enc : TypeId × Value → H} {w : World} {spare : Nat → Bool} {held : Bool}
theorem opens_Q : ∃ f Ok, Opens enc Try.prog w spare held 25 5 f Ok ∧ ∀ q, f q = (QD.of q).l ∧ (Ok q → (QD.of q).Ok ∧ ∀ p ∈ (QD.of q).b.ro, w.heap[p.1]? = some p.2) := by
  have hi : Opens enc Try.prog w spare held 3 1 (fun i => [Value.int .i64 i]) i64s := Opens.int Try.underlying3 (by kernel_rfl) (fun _ h => wf_i64 h)
  have hb : Opens enc Try.prog w spare held 5 1 (fun i => [Value.int .u8 i]) (fun x => 0 ≤ x ∧ x < 256) := Opens.int Try.underlying5 (by kernel_rfl) (fun _ h => wf_u8 h)
  refine ⟨_, _, Opens.st (OpenF.cons hi (OpenF.cons hi (OpenF.cons hi (OpenF.cons hi (OpenF.cons (Opens.sl hb (by decide) Try.underlying23 (by kernel_rfl)) OpenF.nil))))) Try.underlying25 (by kernel_rfl) (by kernel_rfl) ?_, fun q => ⟨rfl, ?_⟩⟩
  · intro q hq
    have h1 : Try.prog.cellsOf 3 = 1 := by kernel_rfl
    have h2 : Try.prog.cellsOf 23 = 1 := by kernel_rfl
    simp only [List.mem_cons, List.not_mem_nil, or_false] at hq
    rcases hq with rfl | rfl | rfl | rfl | rfl <;> first | exact h1 | exact h2
  · rintro ⟨h1, h2, h3, h4, h6, _⟩
    exact ⟨⟨⟨h1, h2, h3, h4⟩, h6.ro, h6.all⟩, h6.mem⟩
theorem open_Qs {t : Nat} (ht : Try.prog.underlying t = some (.slice 25)) (hct : Try.prog.cellsOf t = 1) {r : Reach} {b0 : Nat} {v : Value} {d : DataW H} {ps : List MemPlace} (hok : Value.okWide Try.prog w r b0 t v) (h : DataW.Trod enc Try.prog w 0 spare held t v d ps) :
    ∃ (os : List QD) (a : Option Addr) (cap : Nat) (ro : HL), v = .slice a os.length cap ∧ RoSl 5 (os.flatMap QD.l) a os.length ro ∧ (∀ p ∈ ro ++ qros os, w.heap[p.1]? = some p.2) ∧ (∀ o ∈ os, QD.Ok o) := by
  obtain ⟨f, Ok, hop, hq⟩ := opens_Q (enc := enc) (w := w) (spare := spare) (held := held)
  obtain ⟨s, rfl, hs⟩ := Opens.argSl hop (by decide) ht hct hok h
  refine ⟨s.xs.map QD.of, s.a, s.cap, s.ro, by rw [List.length_map], ?_, fun p hp => ?_, fun o ho => ?_⟩
  · have e : (s.xs.map QD.of).flatMap QD.l = s.xs.flatMap f := by
      rw [List.flatMap_map]
      congr 1
      funext x
      exact ((hq x).1).symm
    rw [e, List.length_map]
    exact hs.ro
  · rcases List.mem_append.1 hp with hp | hp
    · exact hs.mem p hp
    · obtain ⟨o, ho, hpo⟩ := List.mem_flatMap.1 hp
      obtain ⟨x, hx, rfl⟩ := List.mem_map.1 ho
      exact ((hq x).2 (hs.all x hx)).2 p hpo
  · obtain ⟨x, hx, rfl⟩ := List.mem_map.1 ho
    exact ((hq x).2 (hs.all x hx)).1
theorem open_Q1 {r : Reach} {b0 : Nat} {v : Value} {d : DataW H} {ps : List MemPlace} (hok : Value.okWide Try.prog w r b0 25 v) (h : DataW.Trod enc Try.prog w 0 spare held 25 v d ps) :
    ∃ o : QD, v = .agg o.l.toArray ∧ (∀ p ∈ o.b.ro, w.heap[p.1]? = some p.2) ∧ o.Ok := by
  obtain ⟨f, Ok, hop, hq⟩ := opens_Q (enc := enc) (w := w) (spare := spare) (held := held)
  obtain ⟨x, rfl, hx⟩ := Opens.argSt hop Try.underlying25 hok h
  exact ⟨QD.of x, by rw [← (hq x).1], ((hq x).2 hx).2, ((hq x).2 hx).1⟩
end
theorem _root_.Go.Sl.OpVal.minL {P : Program} {n : Nat} {R : HL} {cx : Cx} {ρ : Env} {L : List HL} {t1 t2 ty : TypeId} {x y : Operand} {kk k2 : IntKind} {i j : Int} (hx : ev? ρ x = some (.int kk i)) (hy : ev? ρ y = some (.int k2 j)) (h : ¬ j < i) :
    OpVal P n R cx (.call ⟨.builtin .min, #[x, y], #[t1, t2]⟩) ty ρ L (.int kk i) := by
  have := OpVal.min2 (P := P) (n := n) (R := R) (cx := cx) (L := L) (t1 := t1) (t2 := t2) (ty := ty) hx hy
  rwa [if_neg h] at this
theorem MachinePlays_spec (n : Int) (hn : i64s n) (qs : List QD) (hqs : ∀ o ∈ qs, QD.Ok o) (a : Option Addr) (c : Nat) (ro : HL) (hro : RoSl 5 (qs.flatMap QD.l) a qs.length ro) (fs : List Bool) (af : Option Addr) (cf : Nat) (rf : HL) (hrf : RoSl 1 (fs.flatMap fun x => [Value.bool x]) af fs.length rf) (hfl : (fs.length : Int) ≤ 9223372036854775807) :
    Ctr Try.prog 5 [.int .i64 n, .slice a qs.length c, .slice af fs.length cf] [] (ro ++ (qros qs ++ rf)) (fun v L' => v = .bool true ∧ L' = []) := by
  have rn := around_range n 3 (by decide)
  obtain ⟨kk, hkk⟩ : ∃ kk : Nat, 1 + around n 3 = (kk : Int) := ⟨(1 + around n 3).toNat, by omega⟩
  have hk1 : 1 ≤ kk := by omega
  have hk4 : kk ≤ 64 := by omega
  have hA := Around_spec n 3 hn (by decide)
  have hW := WBegin_spec kk hk1 hk4
  have hL := Lives_spec
  refine Ctr.enter (n := 55) [.tmp 6] [(0, _), (1, _), (2, _)] Try.func5 rfl rfl rfl (lb rfl) Try.call5 ⟨rfl, rfl, rfl, trivial⟩ ?_
  intro cx fin fin0
  refine aG ?_
  repeat (first | refine gx ?_ | refine gN fun _ => ?_ | refine gB fun _ => ?_ | fail)
  refine aC (o := hA) (h := ?_)
  rintro _ _ ⟨rfl, rfl⟩
  refine aG ?_
  refine aV (OpVal.add rfl rfl (i64_in _ (by omega))) ?_
  rw [hkk]
  refine aC (o := hW) (h := ?_)
  rintro _ _ ⟨b, bm, bp, Hw, Hm, Hp, rfl, rfl, hw⟩
  refine aG ?_
  repeat (first | refine gx ?_ | refine gN fun _ => ?_ | refine gB fun _ => ?_ | fail)
  refine aLp (fun k ρ1 L1 => ∃ (i : Nat) (m : Mc) (p : Pt) (Hw Hm Hp : HL), i ≤ 24 ∧ MInv m p ∧ WAt m p b bm bp Hw Hm Hp ∧ k = 24 - i ∧ ρ1 = [(8, .int .i64 (i : Int)), (7, .pointer (some ⟨b, 0, none⟩)), (1, .slice a qs.length c), (2, .slice af fs.length cf)] ∧ L1 = [Hw, Hm, Hp]) (o := ⟨0, Mc.idle, Pt.new kk, Hw, Hm, Hp, by decide, idle_inv (Pt.new_inv hk1 hk4), hw, rfl, rfl, rfl⟩) (h := ?_)
  clear hw
  rintro k ρ1 L1 ⟨i, m, p, Hw, Hm, Hp, hi24, hinv, hw, rfl, rfl, rfl⟩
  refine aG ?_
  by_cases hc : ((i : Int) < (qs.length : Int)) ∧ (i : Int) < 24
  · obtain ⟨hc1, hc2⟩ := hc
    repeat (first | refine gx ?_ | refine gN fun _ => ?_ | refine gB fun _ => ?_ | fail)
    have hil : i < qs.length := by omega
    obtain ⟨bx, ox, lx, ex, frx, rfl, rfl, hseg, hld⟩ := RoSl.at (f := QD.l) (fun _ => rfl) hro hil
    have hO := hqs _ (List.getElem_mem hil)
    have hmem : ∀ q ∈ qs[i].b.ro, q ∈ qros qs := fun q hq => List.mem_flatMap.2 ⟨_, List.getElem_mem hil, hq⟩
    generalize qs[i] = o at hseg hO hmem hld
    have hG := Good_spec o.q hO.inn 5 (by decide) o.b.a o.b.cap o.b.ro hO.ro
    have hq := gq_ok o.q 5 (by decide) hO.u8
    have hS := fun a' c' H' hr f => Step_spec m p hinv b bm bp Hw Hm Hp hw (gq o.q 5) hq a' c' H' hr f
    have hinv2 := fun f => wStep_inv hinv hq f
    obtain ⟨f, hf⟩ : ∃ f : Bool, (i < fs.length → fs[i]? = some f) ∧ (¬ i < fs.length → f = false) := by
      by_cases h : i < fs.length
      · exact ⟨fs[i], fun _ => List.getElem?_eq_getElem h, fun h2 => absurd h h2⟩
      · exact ⟨false, fun h2 => absurd h2 h, fun _ => rfl⟩
    by_cases hfi : i < fs.length
    case' pos =>
      have hfz : (i : Int) < (fs.length : Int) := by omega
      have hfv : fs[i] = f := by have := hf.1 hfi; rw [List.getElem?_eq_getElem hfi] at this; exact Option.some.inj this
      obtain ⟨by_, oy, ly, ey, fry, rfl, rfl, hsy, hlf⟩ := RoSl.at (f := fun x => [Value.bool x]) (m := 1) (fun _ => rfl) hrf hfi
      have lf : ly[oy + i * 1]? = some (.bool f) := by have := hlf 0 (by decide); rw [hfv] at this; exact this
      repeat (first | refine gh hfz ?_ | refine gN fun _ => ?_ | refine gB fun _ => ?_ | fail)
      refine aV (OpVal.minL (i := (i : Int)) rfl rfl (by omega)) ?_
      repeat (first | refine gh hfz ?_ | refine gN fun _ => ?_ | refine gB fun _ => ?_ | fail)
      refine aV (OpVal.ixSl tab_ok rfl rfl rfl rfl rfl hfi) ?_
      repeat (first | refine gh hfz ?_ | refine gN fun _ => ?_ | refine gB fun _ => ?_ | fail)
      refine aV (OpVal.load tab_ok rfl (show At _ _ by_ (.cells ly.toArray ey fry) from .inr (by simp)) lf) ?_
      repeat (first | refine gh hfz ?_ | refine gN fun _ => ?_ | refine gB fun _ => ?_ | fail)
    case' neg =>
      have hfz : ¬ (i : Int) < (fs.length : Int) := by omega
      have hff := hf.2 hfi
      subst hff
      repeat (first | refine gh hfz ?_ | refine gN fun _ => ?_ | refine gB fun _ => ?_ | fail)
    all_goals
      refine aV (OpVal.ixSl tab_ok rfl rfl rfl rfl rfl hil) ?_
      refine aV (OpVal.loadN ty_25.1 ty_25.2 rfl (show At _ _ bx (.cells lx.toArray ex frx) from .inr (by simp)) hseg) ?_
      refine aC (o := hG) (h := ?_) (hro := RoIn.all (fun q hq => by simp [hmem q hq]))
      rintro _ _ ⟨a5, c5, H5, rfl, rfl, h5⟩
      refine aG ?_
      repeat (first | refine gx ?_ | refine gN fun _ => ?_ | refine gB fun _ => ?_ | fail)
      refine aC (o := hS a5 c5 H5 h5 _) (h := ?_) (hro := RoIn.own 0 rfl)
      rintro _ _ ⟨Hw2, Hm2, Hp2, rfl, rfl, hw2⟩
      refine aG ?_
      have hK := Like_spec _ _ (hinv2 _) b bm bp Hw2 Hm2 Hp2 hw2
      repeat (first | refine gx ?_ | refine gN fun _ => ?_ | refine gB fun _ => ?_ | fail)
      refine aC (o := hK) (h := ?_) (hro := RoIn.append (RoIn.own 0 rfl) (RoIn.append (RoIn.own 1 rfl) (RoIn.own 2 rfl)))
      rintro _ _ ⟨rfl, rfl⟩
      refine aG ?_
      repeat (first | refine gx ?_ | refine gN fun _ => ?_ | refine gB fun _ => ?_ | fail)
      refine W.order [0, 0, 0] rfl ?_
      refine aR (o := ⟨24 - (i + 1), by omega, i + 1, _, _, _, _, _, by omega, hinv2 _, hw2, rfl, rfl, rfl⟩)
  · rcases (show ¬ ((i : Int) < (qs.length : Int)) ∨ (((i : Int) < (qs.length : Int)) ∧ ¬ (i : Int) < 24) by omega) with hx | ⟨hx1, hx2⟩
    all_goals
      repeat (first | refine gx ?_ | refine gN fun _ => ?_ | refine gB fun _ => ?_ | fail)
      refine W.order [0] rfl ?_
      refine aC (o := hL) (h := ?_) (hro := RoIn.nil)
      rintro _ _ ⟨rfl, rfl⟩
      refine aG ?_
      repeat (first | refine gx ?_ | refine gN fun _ => ?_ | refine gB fun _ => ?_ | fail)
      refine W.ret (fin _ _ (FinOk.mk' ([]) (.tmp rfl .nil) (by repeat (first | exact Sel.nil | (apply Sel.cons; (repeat (first | exact Pick.here | apply Pick.there))))) rfl ?_))
      exact ⟨rfl, rfl⟩
end Go.Proofs.Ytgipjpiiomgjjaa
