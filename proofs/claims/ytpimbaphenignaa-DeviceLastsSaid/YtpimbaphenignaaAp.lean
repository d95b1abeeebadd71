/-
  The rules with their side conditions found by default: short lines for walks, over this seat's program.
-/
import Derived.Test.YtpimbaphenignaaTab
import Derived.Test.YtpimbaphenignaaSt
namespace Go.Proofs.Ytpimbaphenignaa
open Go Go.Sl
set_option linter.unusedVariables false
theorem lb {m n : Nat} (h : Nat.ble m n = true) : m ≤ n := Nat.le_of_ble_eq_true h
theorem dt {p : Prop} [Decidable p] (h : p) : decide p = true := decide_eq_true h
theorem df {p : Prop} [Decidable p] (h : ¬ p) : decide p = false := decide_eq_false h
theorem oh {R : HL} {L : List HL} {b : Nat} {o : Obj} : At R ([(b, o)] :: L) b o := at_own 0 rfl
theorem ot {R : HL} {c : HL} {L : List HL} {b : Nat} {o : Obj} (h : At R L b o) : At R (c :: L) b o := h.imp (fun h => List.mem_append.2 (.inr h)) id
theorem rh {R : HL} {L : List HL} {b : Nat} {o : Obj} : At ((b, o) :: R) L b o := at_ro 0 rfl
theorem rt {R : HL} {q : Nat × Obj} {L : List HL} {b : Nat} {o : Obj} (h : At R L b o) : At (q :: R) L b o := h.imp id (List.mem_cons_of_mem _)
theorem rhF {R : HL} {M L : List HL} {b : Nat} {o : Obj} : At (([(b, o)] :: M).flatten ++ R) L b o := .inr (by simp)
theorem raF {c R : HL} {M L : List HL} {b : Nat} {o : Obj} (h : At (M.flatten ++ R) L b o) : At ((c :: M).flatten ++ R) L b o := h.imp id (fun h => by simp only [List.flatten_cons, List.append_assoc]; exact List.mem_append_right _ h)
theorem roH {R : HL} {c : HL} {L : List HL} : RoIn R (c :: L) c := RoIn.own 0 rfl
theorem roT {R : HL} {c : HL} {L : List HL} {ro : HL} (h : RoIn R L ro) : RoIn R (c :: L) ro := fun p hp => (h p hp).imp (fun h => List.mem_append.2 (.inr h)) id
section
variable {n : Nat} {R : HL} {cx : Cx} {k : List Kont} {ρ ρ' : Env} {L L' : List HL} {s s' : List Kont} {all : Array Oper} {d : Nat} {od : Option Nat} {op : Op} {ty t t' : TypeId} {x y c : Operand} {pos : String} {af : Array Edge} {l : List Oper} {v : Value}
  {b off m j sl : Nat} {fr : Nat × Nat} {lv cl' vs : List Value} {e : TypeId} {ag want bb : Bool} {ca cb : Code} {pre rest : List HL} {ro : HL} {post : Value → List HL → Prop}
theorem aG (h : W Try.prog n R cx s' ρ' L') (h1 : Sl.drive tab n 3000 s ρ = some (s', ρ') := by exact rfl) (h2 : norm? L = some L' := by exact rfl) : W Try.prog n R cx s ρ L := W.step tab_ok h1 h2 h
theorem aV (o : OpVal Try.prog n R cx op ty ρ L v) (h : W Try.prog n R cx s' ρ' L') (hd : d < n := by exact lb rfl)
    (h1 : Sl.drive tab n 3000 (.ops all l :: k) ((d, v) :: ρ) = some (s', ρ') := by exact rfl) (h2 : norm? L = some L' := by exact rfl) : W Try.prog n R cx (.ops all (⟨some d, op, ty, pos, af, none⟩ :: l) :: k) ρ L :=
  W.val o hd (W.step tab_ok h1 h2 h)
theorem aL (h : W Try.prog n R cx s' ρ' L') (hx : ev? ρ x = some (.pointer (some ⟨b, off, none⟩)) := by exact rfl) (hb : At R L b (.cells lv.toArray e fr) := by repeat (first | exact oh | exact rh | exact rhF | apply ot | apply raF | apply rt))
    (hv : ldv? tab t lv off = some v := by exact rfl) (hd : d < n := by exact lb rfl)
    (h1 : Sl.drive tab n 3000 (.ops all l :: k) ((d, v) :: ρ) = some (s', ρ') := by exact rfl) (h2 : norm? L = some L' := by exact rfl) : W Try.prog n R cx (.ops all (⟨some d, .load t x, ty, pos, af, none⟩ :: l) :: k) ρ L :=
  W.val (OpVal.load tab_ok hx hb hv) hd (W.step tab_ok h1 h2 h)
theorem aS {L2 : List HL} (h : W Try.prog n R cx s' ρ' L') (hx : ev? ρ x = some (.pointer (some ⟨b, off, none⟩)) := by exact rfl)
    (hu : Upd b (.cells lv.toArray e (0, 0)) (.cells cl'.toArray e (0, 0)) L L2 := by repeat (first | exact Upd.here | apply Upd.there))
    (hy : ev? ρ y = some v := by exact rfl) (hc : cells? v = some vs := by exact rfl) (hz : look? tab.tys t = some (ag, m) := by exact rfl) (hl : vs.length = m := by exact rfl) (ho : allOne vs = true := by exact rfl)
    (hv : splice? lv off vs = some cl' := by exact rfl)
    (h1 : Sl.drive tab n 3000 (.ops all l :: k) ρ = some (s', ρ') := by exact rfl) (h2 : norm? L2 = some L' := by exact rfl) : W Try.prog n R cx (.ops all (⟨none, .store t x y, ty, pos, af, none⟩ :: l) :: k) ρ L :=
  W.store tab_ok hx hu hy hc hz hl ho hv (W.step tab_ok h1 h2 h)
theorem aN {z : Value} (h : ∀ b, W Try.prog n R cx (.ops all l :: k) ((d, .pointer (some ⟨b, 0, none⟩)) :: ρ) ([(b, .cells vs.toArray t (0, 0))] :: L)) (hz : look? tab.zeros t = some z := by exact rfl) (hc : cells? z = some vs := by exact rfl) (hd : d < n := by exact lb rfl) :
    W Try.prog n R cx (.ops all (⟨some d, .alloc t, ty, pos, af, none⟩ :: l) :: k) ρ L := W.new tab_ok hz hc hd h
theorem aB {z : Value} (h : ∀ b, W Try.prog n R cx (.ops all l :: k) ((d, .pointer (some ⟨b, 0, none⟩)) :: ρ) ([(b, .cells vs.toArray t (0, 0))] :: L)) (hz : ev? ρ x = some z := by exact rfl) (hc : cells? z = some vs := by exact rfl) (hd : d < n := by exact lb rfl) :
    W Try.prog n R cx (.ops all (⟨some d, .box t x, ty, pos, af, none⟩ :: l) :: k) ρ L := W.box hz hc hd h
theorem aW {o : Obj} {f : Nat → Value} (o1 : NewOf Try.prog n R cx op ty ρ L o f) (h : ∀ b, W Try.prog n R cx (.ops all l :: k) ((d, f b) :: ρ) ([(b, o)] :: L)) (hd : d < n := by exact lb rfl) :
    W Try.prog n R cx (.ops all (⟨some d, op, ty, pos, af, none⟩ :: l) :: k) ρ L := W.nw o1 hd h
theorem aGo (h : W Try.prog n R cx s' ρ' L') (hj : (all[j]?).bind (·.dst) = some sl := by exact rfl) (hb : ρ.get? sl = some (.bool bb) := by exact rfl)
    (hw : bb = want := by first | rfl | exact dt ‹_› | exact df ‹_› | exact ndT ‹_› | exact ndF ‹_› | (simp; done) | exact dt (by omega) | exact df (by omega) | exact ndT (by omega) | exact ndF (by omega) | omega) (h1 : Sl.drive tab n 3000 (.ops all (⟨od, op, ty, pos, af, none⟩ :: l) :: k) ρ = some (s', ρ') := by exact rfl) (h2 : norm? L = some L' := by exact rfl) :
    W Try.prog n R cx (.ops all (⟨od, op, ty, pos, af, some (j, want)⟩ :: l) :: k) ρ L := W.guardGo hj hb hw (W.step tab_ok h1 h2 h)
theorem aSk (h : W Try.prog n R cx s' ρ' L') (hj : (all[j]?).bind (·.dst) = some sl := by exact rfl) (hb : ρ.get? sl = some (.bool bb) := by exact rfl) (hw : bb = !want := by first | rfl | exact dt ‹_› | exact df ‹_› | exact ndT ‹_› | exact ndF ‹_› | (simp; done) | exact dt (by omega) | exact df (by omega) | exact ndT (by omega) | exact ndF (by omega) | omega) (hd : d < n := by exact lb rfl)
    (h1 : Sl.drive tab n 3000 (.ops all l :: k) ((d, undef) :: ρ) = some (s', ρ') := by exact rfl) (h2 : norm? L = some L' := by exact rfl) :
    W Try.prog n R cx (.ops all (⟨some d, op, ty, pos, af, some (j, want)⟩ :: l) :: k) ρ L := W.guardSkip hj hb hw hd (W.step tab_ok h1 h2 h)
theorem aUn (h : W Try.prog n R cx s' ρ' L') (hj : (all[j]?).bind (·.dst) = some sl := by exact rfl) (hb : ρ.get? sl = some undef := by exact rfl) (hd : d < n := by exact lb rfl)
    (h1 : Sl.drive tab n 3000 (.ops all l :: k) ((d, undef) :: ρ) = some (s', ρ') := by exact rfl) (h2 : norm? L = some L' := by exact rfl) :
    W Try.prog n R cx (.ops all (⟨some d, op, ty, pos, af, some (j, want)⟩ :: l) :: k) ρ L := W.guardUndef hj hb hd (W.step tab_ok h1 h2 h)
theorem aPT (h : W Try.prog n R cx s' ρ' L') (hc : ev? ρ c = some (.bool bb) := by exact rfl) (hx : ev? ρ x = some v := by exact rfl) (hb : bb = true := by first | rfl | exact dt ‹_› | exact df ‹_› | exact ndT ‹_› | exact ndF ‹_› | (simp; done) | exact dt (by omega) | exact df (by omega) | exact ndT (by omega) | exact ndF (by omega) | omega) (hd : d < n := by exact lb rfl)
    (h1 : Sl.drive tab n 3000 (.ops all l :: k) ((d, v) :: ρ) = some (s', ρ') := by exact rfl) (h2 : norm? L = some L' := by exact rfl) : W Try.prog n R cx (.ops all (⟨some d, .pick c x y, ty, pos, af, none⟩ :: l) :: k) ρ L :=
  W.val (OpVal.pickT hc hb hx) hd (W.step tab_ok h1 h2 h)
theorem aPF (h : W Try.prog n R cx s' ρ' L') (hc : ev? ρ c = some (.bool bb) := by exact rfl) (hy : ev? ρ y = some v := by exact rfl) (hb : bb = false := by first | rfl | exact dt ‹_› | exact df ‹_› | exact ndT ‹_› | exact ndF ‹_› | (simp; done) | exact dt (by omega) | exact df (by omega) | exact ndT (by omega) | exact ndF (by omega) | omega) (hd : d < n := by exact lb rfl)
    (h1 : Sl.drive tab n 3000 (.ops all l :: k) ((d, v) :: ρ) = some (s', ρ') := by exact rfl) (h2 : norm? L = some L' := by exact rfl) : W Try.prog n R cx (.ops all (⟨some d, .pick c x y, ty, pos, af, none⟩ :: l) :: k) ρ L :=
  W.val (OpVal.pickF hc hb hy) hd (W.step tab_ok h1 h2 h)
theorem aT (h : W Try.prog n R cx s' ρ' L') (hc : ev? ρ c = some (.bool bb) := by exact rfl)
    (hb : bb = true := by first | rfl | exact dt ‹_› | exact df ‹_› | exact ndT ‹_› | exact ndF ‹_› | (simp; done) | exact dt (by omega) | exact df (by omega) | exact ndT (by omega) | exact ndF (by omega) | omega) (h1 : Sl.drive tab n 3000 (.code ca :: k) ρ = some (s', ρ') := by exact rfl) (h2 : norm? L = some L' := by exact rfl) : W Try.prog n R cx (.code (.cond c ca cb) :: k) ρ L := W.iteT hc hb (W.step tab_ok h1 h2 h)
theorem aF (h : W Try.prog n R cx s' ρ' L') (hc : ev? ρ c = some (.bool bb) := by exact rfl)
    (hb : bb = false := by first | rfl | exact dt ‹_› | exact df ‹_› | exact ndT ‹_› | exact ndF ‹_› | (simp; done) | exact dt (by omega) | exact df (by omega) | exact ndT (by omega) | exact ndF (by omega) | omega) (h1 : Sl.drive tab n 3000 (.code cb :: k) ρ = some (s', ρ') := by exact rfl) (h2 : norm? L = some L' := by exact rfl) : W Try.prog n R cx (.code (.cond c ca cb) :: k) ρ L := W.iteF hc hb (W.step tab_ok h1 h2 h)
theorem aC {cc : Call} {fo : Operand} {xs : Array Operand} {tys : Array TypeId} {f : FuncId} {fst us cap args : List Value}
    (hc : cc = ⟨.value fo, xs, tys⟩ := by exact rfl) (hfo : ev? ρ fo = some (.func (.func f) fst.toArray cap.toArray) := by exact rfl) (hxs : evs? ρ xs.toList = some us := by exact rfl) (hargs : fst ++ us ++ cap = args := by exact rfl)
    (o : Ctr Try.prog f args pre ro post) (h : ∀ v L', post v L' → W Try.prog n R cx (.ops all l :: k) ((d, v) :: ρ) (L' ++ rest))
    (hsel : Sel L pre rest := by repeat (first | exact Sel.nil | (apply Sel.cons; (repeat (first | exact Pick.here | apply Pick.there)))))
    (hro : RoIn R rest ro := by repeat (first | exact RoIn.nil | exact RoIn.same | refine RoIn.cons (by first | exact at_own 0 rfl | exact at_own 1 rfl | exact at_own 2 rfl | exact at_own 3 rfl | exact at_own 4 rfl | exact at_own 5 rfl | exact at_own 6 rfl | exact at_own 7 rfl | exact at_own 8 rfl | exact at_own 9 rfl | exact at_own 10 rfl | exact at_own 11 rfl | exact at_ro 0 rfl | exact at_ro 1 rfl | exact at_ro 2 rfl | exact at_ro 3 rfl | exact at_ro 4 rfl | exact at_ro 5 rfl) ?_ | refine RoIn.append ?_ ?_ | exact RoIn.own 0 rfl | exact RoIn.own 1 rfl | exact RoIn.own 2 rfl | exact RoIn.own 3 rfl | exact RoIn.own 4 rfl | exact RoIn.own 5 rfl | exact RoIn.own 6 rfl | exact RoIn.own 7 rfl | exact RoIn.own 8 rfl | exact RoIn.own 9 rfl | exact RoIn.own 10 rfl | exact RoIn.own 11 rfl | (intro p hp; simp [hp]; done)))
    (hd : d < n := by exact lb rfl) : W Try.prog n R cx (.ops all (⟨some d, .call cc, ty, pos, af, none⟩ :: l) :: k) ρ L := W.call hc hfo hxs hargs o hsel hro hd h
theorem aCV {cc : Call} {fo : Operand} {xs : Array Operand} {tys : Array TypeId} {fv : Value} {us : List Value}
    (hc : cc = ⟨.value fo, xs, tys⟩ := by exact rfl) (hfo : ev? ρ fo = some fv := by exact rfl) (hxs : evs? ρ xs.toList = some us := by exact rfl)
    (o : CtrV Try.prog fv us pre ro post) (h : ∀ v L', post v L' → W Try.prog n R cx (.ops all l :: k) ((d, v) :: ρ) (L' ++ rest))
    (hsel : Sel L pre rest := by repeat (first | exact Sel.nil | (apply Sel.cons; (repeat (first | exact Pick.here | apply Pick.there)))))
    (hro : RoIn R rest ro := by repeat (first | exact RoIn.nil | exact RoIn.same | refine RoIn.cons (by first | exact at_own 0 rfl | exact at_own 1 rfl | exact at_own 2 rfl | exact at_own 3 rfl | exact at_own 4 rfl | exact at_own 5 rfl | exact at_own 6 rfl | exact at_own 7 rfl | exact at_own 8 rfl | exact at_own 9 rfl | exact at_own 10 rfl | exact at_own 11 rfl | exact at_ro 0 rfl | exact at_ro 1 rfl | exact at_ro 2 rfl | exact at_ro 3 rfl | exact at_ro 4 rfl | exact at_ro 5 rfl) ?_ | refine RoIn.append ?_ ?_ | exact RoIn.own 0 rfl | exact RoIn.own 1 rfl | exact RoIn.own 2 rfl | exact RoIn.own 3 rfl | exact RoIn.own 4 rfl | exact RoIn.own 5 rfl | exact RoIn.own 6 rfl | exact RoIn.own 7 rfl | exact RoIn.own 8 rfl | exact RoIn.own 9 rfl | exact RoIn.own 10 rfl | exact RoIn.own 11 rfl | (intro p hp; simp [hp]; done)))
    (hd : d < n := by exact lb rfl) : W Try.prog n R cx (.ops all (⟨some d, .call cc, ty, pos, af, none⟩ :: l) :: k) ρ L := W.callV hc hfo hxs o hsel hro hd h
theorem aPr (hp : Prim Try.prog n R cx op ty ρ L pre post) (hk : ∀ v L', post v L' → W Try.prog n R cx (.ops all l :: k) ((d, v) :: ρ) (L' ++ rest))
    (hsel : Sel L pre rest := by repeat (first | exact Sel.nil | (apply Sel.cons; (repeat (first | exact Pick.here | apply Pick.there))))) (hd : d < n := by exact lb rfl) :
    W Try.prog n R cx (.ops all (⟨some d, op, ty, pos, af, none⟩ :: l) :: k) ρ L := W.prim hp hsel hd hk
theorem aPu (hp : Prim Try.prog n R cx op ty ρ L pre post) (hk : ∀ v L', post v L' → W Try.prog n R cx (.ops all l :: k) ρ (L' ++ rest))
    (hsel : Sel L pre rest := by repeat (first | exact Sel.nil | (apply Sel.cons; (repeat (first | exact Pick.here | apply Pick.there))))) :
    W Try.prog n R cx (.ops all (⟨none, op, ty, pos, af, none⟩ :: l) :: k) ρ L := W.primU hp hsel hk
theorem aSkp {post : List HL → Prop} (hp : Skips Try.prog n R cx op ty ρ L pre post) (hk : ∀ L', post L' → W Try.prog n R cx (.ops all l :: k) ρ (L' ++ rest))
    (hsel : Sel L pre rest := by repeat (first | exact Sel.nil | (apply Sel.cons; (repeat (first | exact Pick.here | apply Pick.there))))) :
    W Try.prog n R cx (.ops all (⟨none, op, ty, pos, af, none⟩ :: l) :: k) ρ L := W.skips hp hsel hk
theorem aSl {bytes len : Nat} {ps : List (Nat × Operand)} {z : Value} {zs zz out : List Value} {q : List (Nat × List Value)}
    (h : ∀ b, W Try.prog n R cx (.ops all l :: k) ((d, .slice (some ⟨b, 0, none⟩) len len) :: ρ) ([(b, .cells out.toArray e (0, 0))] :: L))
    (ht : look? tab.sls t = some e := by exact rfl) (hi : look? tab.infs e = some (m, bytes) := by exact rfl) (hz : look? tab.zeros e = some z := by exact rfl) (hzc : cells? z = some zs := by exact rfl) (hzl : zs.length = m := by exact rfl) (hrep : norm? (repL len zs) = some zz := by exact rfl)
    (hq : parts? ρ (apl m 0 len) ps = some q := by exact rfl) (hf : Fills (apl m 0 len) ρ ps := by repeat (first | exact trivial | refine ⟨⟨_, _, _, rfl, rfl, rfl⟩, ?_⟩)) (ho : lay? zz q = some out := by exact rfl) (hlen : len * m ≤ 16777216 := by exact lb rfl) (hd : d < n := by exact lb rfl) :
    W Try.prog n R cx (.ops all (⟨some d, .buildSlice t len ps.toArray, ty, pos, af, none⟩ :: l) :: k) ρ L := W.slit tab_ok ht hi hz hzc hzl hrep hq hf ho hlen hd h
theorem aBu {ps : List (Nat × Operand)} {z : Value} {zs out : List Value} {pl : List (Nat × Nat)} {q : List (Nat × List Value)} (h : W Try.prog n R cx s' ρ' L')
    (hz : look? tab.zeros t = some z := by exact rfl) (hzc : cells? z = some zs := by exact rfl) (hp : look? tab.flds t = some pl := by exact rfl) (hq : parts? ρ pl ps = some q := by exact rfl) (hf : Fills pl ρ ps := by repeat (first | exact trivial | refine ⟨⟨_, _, _, rfl, rfl, rfl⟩, ?_⟩)) (ho : lay? zs q = some out := by exact rfl) (hd : d < n := by exact lb rfl)
    (h1 : Sl.drive tab n 3000 (.ops all l :: k) ((d, .agg out.toArray) :: ρ) = some (s', ρ') := by exact rfl) (h2 : norm? L = some L' := by exact rfl) : W Try.prog n R cx (.ops all (⟨some d, .build t ps.toArray, ty, pos, af, none⟩ :: l) :: k) ρ L :=
  W.val (OpVal.build tab_ok hz hzc hp hq hf ho) hd (W.step tab_ok h1 h2 h)
theorem aAr {bo : BinOp} {kk : IntKind} {i i' r : Int} (o : OpVal Try.prog n R cx (.binOp bo t x y t') ty ρ L v) (h : W Try.prog n R cx s' ρ' L') (hd : d < n := by exact lb rfl)
    (h1 : Sl.drive tab n 3000 (.ops all l :: k) ((d, v) :: ρ) = some (s', ρ') := by exact rfl) (h2 : norm? L = some L' := by exact rfl) : W Try.prog n R cx (.ops all (⟨some d, .binOp bo t x y t', ty, pos, af, none⟩ :: l) :: k) ρ L :=
  W.val o hd (W.step tab_ok h1 h2 h)
theorem aLp {cd : Code} (I : Nat → Env → List HL → Prop) {m0 : Nat} {ρ0 : Env} {L0 X : List HL} (hsub : Env.sub ρ0 ρ := by repeat (first | exact trivial | refine ⟨rfl, ?_⟩))
    (hsel : Sel L L0 X := by repeat (first | exact Sel.nil | (apply Sel.cons; (repeat (first | exact Pick.here | apply Pick.there))))) (o : I m0 ρ0 L0)
    (h : ∀ m ρ1 L1, I m ρ1 L1 → W Try.prog n R cx (.code cd :: .rnd (fun ρ2 L2 => ∃ m', m' < m ∧ I m' ρ2 L2) :: k) ρ1 L1) : W Try.prog n R cx (.code (.loop cd) :: k) ρ L := W.loop I m0 ρ0 L0 hsub hsel o h
theorem aR {J : Env → List HL → Prop} {ρ1 : Env} {L1 X : List HL} (hsub : Env.sub ρ1 ρ := by repeat (first | exact trivial | refine ⟨rfl, ?_⟩))
    (hsel : Sel L L1 X := by repeat (first | exact Sel.nil | (apply Sel.cons; (repeat (first | exact Pick.here | apply Pick.there))))) (o : J ρ1 L1) : W Try.prog n R cx (.rnd J :: k) ρ L := W.rnd ρ1 L1 hsub hsel o
theorem aAp {bytes len cap nx cxx bx ox : Nat} {cs news : List Value} {a : Option Addr} {H : HL} {lx : List Value} {ex : TypeId} {frx : Nat × Nat} (ho : Own m e cs a len cap H)
    (hk : ∀ v L', (∃ a' cap' H', v = .slice a' (len + nx) cap' ∧ L' = [H'] ∧ Own m e (cs ++ news) a' (len + nx) cap' H') → W Try.prog n R cx (.ops all l :: k) ((d, v) :: ρ) (L' ++ rest))
    (ht : look? tab.sls t = some e := by exact rfl) (hi : look? tab.infs e = some (m, bytes) := by exact rfl) (hs : ev? ρ x = some (.slice a len cap) := by exact rfl) (hH : ∀ p ∈ H, p ∈ L.flatten := by (intro p hp; simp [hp]))
    (hx : ev? ρ y = some (.slice (some ⟨bx, ox, none⟩) nx cxx) := by exact rfl) (hb : At R L bx (.cells lx.toArray ex frx) := by repeat (first | exact oh | exact rh | exact rhF | apply ot | apply raF | apply rt)) (hn : seg? lx ox (nx * m) = some news := by exact rfl)
    (h1 : allOne news = true := by exact rfl) (hbig : (len + nx) * bytes ≤ 140737488355328 := by omega) (hbig2 : len + nx ≤ 140737488355328 := by omega)
    (hsel : Sel L [H] rest := by repeat (first | exact Sel.nil | (apply Sel.cons; (repeat (first | exact Pick.here | apply Pick.there))))) (hd : d < n := by exact lb rfl) :
    W Try.prog n R cx (.ops all (⟨some d, .call ⟨.builtin .append, #[x, y], #[t, t]⟩, ty, pos, af, none⟩ :: l) :: k) ρ L :=
  W.prim (app tab_ok ht hi hs ho hH hx hb hn h1 hbig hbig2) hsel hd hk
theorem aRc {t : Nat} {rs : List ResultVar} (hr : ResOk Try.prog R ρ L rs vs) (h : ρ.get? t = some (.pointer (some ⟨b, off, none⟩)) := by exact rfl) (hb : At R L b (.cells lv.toArray e fr) := by repeat (first | exact oh | exact rh | exact rhF | apply ot | apply raF | apply rt))
    (hv : ldv? tab ty lv off = some v := by exact rfl) : ResOk Try.prog R ρ L (.cell t ty :: rs) (v :: vs) := ResOk.cell tab_ok h hb hv hr
theorem aE {g : Nat × Bool} (h : W Try.prog n R cx (.ops all (⟨od, op, ty, pos, af, some g⟩ :: l) :: k) ρ L) : W Try.prog n R cx (.ops all (⟨od, op, ty, pos, af, some g⟩ :: l) :: k) ρ L := h
end
section
variable {n : Nat} {R : HL} {cx : Cx} {ρ ρ' : Env} {Y Y' : List HL} {ops : Array Oper} {K : Env → List HL → Prop} {el el' : List Kd} {fl : List (Nat × Obj)} {d : Nat} {od : Option Nat} {op : Op} {ty t t' : TypeId} {x y c : Operand} {pos : String} {af : Array Edge} {l l' : List Oper} {v : Value}
  {b off m j sl : Nat} {fr : Nat × Nat} {lv cl' vs : List Value} {e : TypeId} {ag want bb eb : Bool} {pre rest : List HL} {ro : HL} {post : Value → List HL → Prop}
theorem dG (h : WD Try.prog n R cx ops el' fl l' ρ' Y' K) (h1 : ddrive tab n el l ρ = some (el', l', ρ') := by exact rfl) (h2 : norm? Y = some Y' := by exact rfl) : WD Try.prog n R cx ops el fl l ρ Y K := WD.step tab_ok h1 h2 h
theorem dV (o : OpVal Try.prog n R cx op ty ρ [] v) (h : WD Try.prog n R cx ops el' fl l' ρ' Y' K) (hd : d < n := by exact lb rfl) (h1 : ddrive tab n el l ((d, v) :: ρ) = some (el', l', ρ') := by exact rfl) (h2 : norm? Y = some Y' := by exact rfl) :
    WD Try.prog n R cx ops (.b false :: el) fl (⟨some d, op, ty, pos, af, none⟩ :: l) ρ Y K := WD.val o hd (WD.step tab_ok h1 h2 h)
theorem dVA (o : OpVal Try.prog n R cx op ty ρ Y v) (h : WD Try.prog n R cx ops el' fl l' ρ' Y' K) (hd : d < n := by exact lb rfl) (h1 : ddrive tab n el l ((d, v) :: ρ) = some (el', l', ρ') := by exact rfl) (h2 : norm? Y = some Y' := by exact rfl) :
    WD Try.prog n R cx ops (.b true :: el) fl (⟨some d, op, ty, pos, af, none⟩ :: l) ρ Y K := WD.valA o hd (WD.step tab_ok h1 h2 h)
theorem dL (h : WD Try.prog n R cx ops el' fl l' ρ' Y' K) (hx : ev? ρ x = some (.pointer (some ⟨b, off, none⟩)) := by exact rfl) (hb : At R [] b (.cells lv.toArray e fr) := by repeat (first | exact rh | exact rhF | apply raF | apply rt))
    (hv : ldv? tab t lv off = some v := by exact rfl) (hd : d < n := by exact lb rfl) (h1 : ddrive tab n el l ((d, v) :: ρ) = some (el', l', ρ') := by exact rfl) (h2 : norm? Y = some Y' := by exact rfl) :
    WD Try.prog n R cx ops (.b false :: el) fl (⟨some d, .load t x, ty, pos, af, none⟩ :: l) ρ Y K := WD.val (OpVal.load tab_ok hx hb hv) hd (WD.step tab_ok h1 h2 h)
theorem dLA (h : WD Try.prog n R cx ops el' fl l' ρ' Y' K) (hx : ev? ρ x = some (.pointer (some ⟨b, off, none⟩)) := by exact rfl) (hb : At R Y b (.cells lv.toArray e fr) := by repeat (first | exact oh | exact rh | exact rhF | apply ot | apply raF | apply rt))
    (hv : ldv? tab t lv off = some v := by exact rfl) (hd : d < n := by exact lb rfl) (h1 : ddrive tab n el l ((d, v) :: ρ) = some (el', l', ρ') := by exact rfl) (h2 : norm? Y = some Y' := by exact rfl) :
    WD Try.prog n R cx ops (.b true :: el) fl (⟨some d, .load t x, ty, pos, af, none⟩ :: l) ρ Y K := WD.valA (OpVal.load tab_ok hx hb hv) hd (WD.step tab_ok h1 h2 h)
theorem dS {L2 : List HL} (h : WD Try.prog n R cx ops el' fl l' ρ' Y' K) (hx : ev? ρ x = some (.pointer (some ⟨b, off, none⟩)) := by exact rfl)
    (hu : Upd b (.cells lv.toArray e (0, 0)) (.cells cl'.toArray e (0, 0)) Y L2 := by repeat (first | exact Upd.here | apply Upd.there))
    (hy : ev? ρ y = some v := by exact rfl) (hc : cells? v = some vs := by exact rfl) (hz : look? tab.tys t = some (ag, m) := by exact rfl) (hl : vs.length = m := by exact rfl) (ho : allOne vs = true := by exact rfl)
    (hv : splice? lv off vs = some cl' := by exact rfl) (h1 : ddrive tab n el l ρ = some (el', l', ρ') := by exact rfl) (h2 : norm? L2 = some Y' := by exact rfl) :
    WD Try.prog n R cx ops (.b true :: el) fl (⟨none, .store t x y, ty, pos, af, none⟩ :: l) ρ Y K := WD.store tab_ok hx hu hy hc hz hl ho hv (WD.step tab_ok h1 h2 h)
theorem dW {o : Obj} {f : Nat → Value} (o1 : NewOf Try.prog n R cx op ty ρ Y o f) (h : ∀ b, WD Try.prog n R cx ops el fl l ((d, f b) :: ρ) ([(b, o)] :: Y) K) (hd : d < n := by exact lb rfl) :
    WD Try.prog n R cx ops (.b true :: el) fl (⟨some d, op, ty, pos, af, none⟩ :: l) ρ Y K := WD.new_ o1 hd h
theorem dN {z : Value} (h : ∀ b, WD Try.prog n R cx ops el fl l ((d, .pointer (some ⟨b, 0, none⟩)) :: ρ) ([(b, .cells vs.toArray t (0, 0))] :: Y) K) (hz : look? tab.zeros t = some z := by exact rfl) (hc : cells? z = some vs := by exact rfl) (hd : d < n := by exact lb rfl) :
    WD Try.prog n R cx ops (.b true :: el) fl (⟨some d, .alloc t, ty, pos, af, none⟩ :: l) ρ Y K := WD.new_ (NewOf.new tab_ok hz hc) hd h
theorem dB {z : Value} (h : ∀ b, WD Try.prog n R cx ops el fl l ((d, .pointer (some ⟨b, 0, none⟩)) :: ρ) ([(b, .cells vs.toArray t (0, 0))] :: Y) K) (hz : ev? ρ x = some z := by exact rfl) (hc : cells? z = some vs := by exact rfl) (hd : d < n := by exact lb rfl) :
    WD Try.prog n R cx ops (.b true :: el) fl (⟨some d, .box t x, ty, pos, af, none⟩ :: l) ρ Y K := WD.new_ (NewOf.box hz hc) hd h
theorem dSl {bytes len : Nat} {ps : List (Nat × Operand)} {z : Value} {zs zz out : List Value} {q : List (Nat × List Value)}
    (h : ∀ b, WD Try.prog n R cx ops el fl l ((d, .slice (some ⟨b, 0, none⟩) len len) :: ρ) ([(b, .cells out.toArray e (0, 0))] :: Y) K)
    (ht : look? tab.sls t = some e := by exact rfl) (hi : look? tab.infs e = some (m, bytes) := by exact rfl) (hz : look? tab.zeros e = some z := by exact rfl) (hzc : cells? z = some zs := by exact rfl) (hzl : zs.length = m := by exact rfl) (hrep : norm? (repL len zs) = some zz := by exact rfl)
    (hq : parts? ρ (apl m 0 len) ps = some q := by exact rfl) (hf : Fills (apl m 0 len) ρ ps := by repeat (first | exact trivial | refine ⟨⟨_, _, _, rfl, rfl, rfl⟩, ?_⟩)) (ho : lay? zz q = some out := by exact rfl) (hlen : len * m ≤ 16777216 := by exact lb rfl) (hd : d < n := by exact lb rfl) :
    WD Try.prog n R cx ops (.b true :: el) fl (⟨some d, .buildSlice t len ps.toArray, ty, pos, af, none⟩ :: l) ρ Y K := WD.new_ (NewOf.slit tab_ok ht hi hz hzc hzl hrep hq hf ho hlen) hd h
theorem dGo (h : WD Try.prog n R cx ops el' fl l' ρ' Y' K) (hj : (ops[j]?).bind (·.dst) = some sl := by exact rfl) (hb : ρ.get? sl = some (.bool bb) := by exact rfl)
    (o : OpVal Try.prog n R cx op ty ρ [] v := by exact pop_val tab_ok rfl) (hw : bb = want := by first | rfl | exact dt ‹_› | exact df ‹_› | exact ndT ‹_› | exact ndF ‹_› | (simp; done) | exact dt (by omega) | exact df (by omega) | exact ndT (by omega) | exact ndF (by omega) | omega) (hd : d < n := by exact lb rfl) (h1 : ddrive tab n el l ((d, v) :: ρ) = some (el', l', ρ') := by exact rfl) (h2 : norm? Y = some Y' := by exact rfl) :
    WD Try.prog n R cx ops (.b false :: el) fl (⟨some d, op, ty, pos, af, some (j, want)⟩ :: l) ρ Y K := WD.guardGoQ hj hb hw o hd (WD.step tab_ok h1 h2 h)
theorem dSk (h : WD Try.prog n R cx ops el' fl l' ρ' Y' K) (hj : (ops[j]?).bind (·.dst) = some sl := by exact rfl) (hb : ρ.get? sl = some (.bool bb) := by exact rfl)
    (hw : bb = !want := by first | rfl | exact dt ‹_› | exact df ‹_› | exact ndT ‹_› | exact ndF ‹_› | (simp; done) | exact dt (by omega) | exact df (by omega) | exact ndT (by omega) | exact ndF (by omega) | omega) (hd : d < n := by exact lb rfl) (h1 : ddrive tab n el l ((d, undef) :: ρ) = some (el', l', ρ') := by exact rfl) (h2 : norm? Y = some Y' := by exact rfl) :
    WD Try.prog n R cx ops (.b eb :: el) fl (⟨some d, op, ty, pos, af, some (j, want)⟩ :: l) ρ Y K := WD.guardSkip hj hb hw hd (WD.step tab_ok h1 h2 h)
theorem dUn (h : WD Try.prog n R cx ops el' fl l' ρ' Y' K) (hj : (ops[j]?).bind (·.dst) = some sl := by exact rfl) (hb : ρ.get? sl = some undef := by exact rfl)
    (hd : d < n := by exact lb rfl) (h1 : ddrive tab n el l ((d, undef) :: ρ) = some (el', l', ρ') := by exact rfl) (h2 : norm? Y = some Y' := by exact rfl) :
    WD Try.prog n R cx ops (.b eb :: el) fl (⟨some d, op, ty, pos, af, some (j, want)⟩ :: l) ρ Y K := WD.guardUndef hj hb hd (WD.step tab_ok h1 h2 h)
theorem dPT (h : WD Try.prog n R cx ops el' fl l' ρ' Y' K) (hc : ev? ρ c = some (.bool bb) := by exact rfl) (hx : ev? ρ x = some v := by exact rfl)
    (hb : bb = true := by first | rfl | exact dt ‹_› | exact df ‹_› | exact ndT ‹_› | exact ndF ‹_› | (simp; done) | exact dt (by omega) | exact df (by omega) | exact ndT (by omega) | exact ndF (by omega) | omega) (hd : d < n := by exact lb rfl) (h1 : ddrive tab n el l ((d, v) :: ρ) = some (el', l', ρ') := by exact rfl) (h2 : norm? Y = some Y' := by exact rfl) :
    WD Try.prog n R cx ops (.b false :: el) fl (⟨some d, .pick c x y, ty, pos, af, none⟩ :: l) ρ Y K := WD.val (OpVal.pickT hc hb hx) hd (WD.step tab_ok h1 h2 h)
theorem dPF (h : WD Try.prog n R cx ops el' fl l' ρ' Y' K) (hc : ev? ρ c = some (.bool bb) := by exact rfl) (hy : ev? ρ y = some v := by exact rfl)
    (hb : bb = false := by first | rfl | exact dt ‹_› | exact df ‹_› | exact ndT ‹_› | exact ndF ‹_› | (simp; done) | exact dt (by omega) | exact df (by omega) | exact ndT (by omega) | exact ndF (by omega) | omega) (hd : d < n := by exact lb rfl) (h1 : ddrive tab n el l ((d, v) :: ρ) = some (el', l', ρ') := by exact rfl) (h2 : norm? Y = some Y' := by exact rfl) :
    WD Try.prog n R cx ops (.b false :: el) fl (⟨some d, .pick c x y, ty, pos, af, none⟩ :: l) ρ Y K := WD.val (OpVal.pickF hc hb hy) hd (WD.step tab_ok h1 h2 h)
theorem dC {cc : Call} {fo : Operand} {xs : Array Operand} {tys : Array TypeId} {f : FuncId} {fst us cap args : List Value}
    (hc : cc = ⟨.value fo, xs, tys⟩ := by exact rfl) (hfo : ev? ρ fo = some (.func (.func f) fst.toArray cap.toArray) := by exact rfl) (hxs : evs? ρ xs.toList = some us := by exact rfl) (hargs : fst ++ us ++ cap = args := by exact rfl)
    (o : Ctr Try.prog f args pre ro post) (h : ∀ v L', post v L' → WD Try.prog n R cx ops el fl l ((d, v) :: ρ) (L' ++ rest) K)
    (hsel : Sel Y pre rest := by repeat (first | exact Sel.nil | (apply Sel.cons; (repeat (first | exact Pick.here | apply Pick.there)))))
    (hro : RoIn R rest ro := by repeat (first | exact RoIn.nil | exact RoIn.same | refine RoIn.cons (by first | exact at_own 0 rfl | exact at_own 1 rfl | exact at_own 2 rfl | exact at_own 3 rfl | exact at_own 4 rfl | exact at_own 5 rfl | exact at_own 6 rfl | exact at_own 7 rfl | exact at_own 8 rfl | exact at_own 9 rfl | exact at_own 10 rfl | exact at_own 11 rfl | exact at_ro 0 rfl | exact at_ro 1 rfl | exact at_ro 2 rfl | exact at_ro 3 rfl | exact at_ro 4 rfl | exact at_ro 5 rfl) ?_ | refine RoIn.append ?_ ?_ | exact RoIn.own 0 rfl | exact RoIn.own 1 rfl | exact RoIn.own 2 rfl | exact RoIn.own 3 rfl | exact RoIn.own 4 rfl | exact RoIn.own 5 rfl | exact RoIn.own 6 rfl | exact RoIn.own 7 rfl | exact RoIn.own 8 rfl | exact RoIn.own 9 rfl | exact RoIn.own 10 rfl | exact RoIn.own 11 rfl | (intro p hp; simp [hp]; done)))
    (hd : d < n := by exact lb rfl) : WD Try.prog n R cx ops (.b true :: el) fl (⟨some d, .call cc, ty, pos, af, none⟩ :: l) ρ Y K := WD.call hc hfo hxs hargs o hsel hro hd h
theorem dCG {cc : Call} {fo : Operand} {xs : Array Operand} {tys : Array TypeId} {f : FuncId} {fst us cap args : List Value}
    (hj : (ops[j]?).bind (·.dst) = some sl := by exact rfl) (hb : ρ.get? sl = some (.bool bb) := by exact rfl)
    (hw : bb = want := by first | rfl | exact dt ‹_› | exact df ‹_› | exact ndT ‹_› | exact ndF ‹_› | (simp; done) | exact dt (by omega) | exact df (by omega) | exact ndT (by omega) | exact ndF (by omega) | omega) (hc : cc = ⟨.value fo, xs, tys⟩ := by exact rfl) (hfo : ev? ρ fo = some (.func (.func f) fst.toArray cap.toArray) := by exact rfl) (hxs : evs? ρ xs.toList = some us := by exact rfl) (hargs : fst ++ us ++ cap = args := by exact rfl)
    (o : Ctr Try.prog f args pre ro post) (h : ∀ v L', post v L' → WD Try.prog n R cx ops el fl l ((d, v) :: ρ) (L' ++ rest) K)
    (hsel : Sel Y pre rest := by repeat (first | exact Sel.nil | (apply Sel.cons; (repeat (first | exact Pick.here | apply Pick.there)))))
    (hro : RoIn R rest ro := by repeat (first | exact RoIn.nil | exact RoIn.same | refine RoIn.cons (by first | exact at_own 0 rfl | exact at_own 1 rfl | exact at_own 2 rfl | exact at_own 3 rfl | exact at_own 4 rfl | exact at_own 5 rfl | exact at_own 6 rfl | exact at_own 7 rfl | exact at_own 8 rfl | exact at_own 9 rfl | exact at_own 10 rfl | exact at_own 11 rfl | exact at_ro 0 rfl | exact at_ro 1 rfl | exact at_ro 2 rfl | exact at_ro 3 rfl | exact at_ro 4 rfl | exact at_ro 5 rfl) ?_ | refine RoIn.append ?_ ?_ | exact RoIn.own 0 rfl | exact RoIn.own 1 rfl | exact RoIn.own 2 rfl | exact RoIn.own 3 rfl | exact RoIn.own 4 rfl | exact RoIn.own 5 rfl | exact RoIn.own 6 rfl | exact RoIn.own 7 rfl | exact RoIn.own 8 rfl | exact RoIn.own 9 rfl | exact RoIn.own 10 rfl | exact RoIn.own 11 rfl | (intro p hp; simp [hp]; done)))
    (hd : d < n := by exact lb rfl) : WD Try.prog n R cx ops (.b true :: el) fl (⟨some d, .call cc, ty, pos, af, some (j, want)⟩ :: l) ρ Y K := WD.guardGoCall hj hb hw hc hfo hxs hargs o hsel hro hd h
theorem dQ {cc : Call} {fo : Operand} {xs : Array Operand} {tys : Array TypeId} {f : FuncId} {fst us cap args : List Value}
    
    (hc : cc = ⟨.value fo, xs, tys⟩ := by exact rfl) (hfo : ev? ρ fo = some (.func (.func f) fst.toArray cap.toArray) := by exact rfl) (hxs : evs? ρ xs.toList = some us := by exact rfl) (hargs : fst ++ us ++ cap = args := by exact rfl)
    (hi : Try.prog.inits.idxOf? f = none := by kernel_rfl) (o : Ctr Try.prog f args [] ro post) (h : WD Try.prog n R cx ops el' fl l' ρ' Y' K) (hv : ∀ u L', post u L' → u = v := by (rintro _ _ ⟨rfl, _⟩; rfl)) (hro : ∀ p ∈ ro, p ∈ R := by first | (intro p hp; cases hp; done) | (intro p hp; simpa using hp) | (intro p hp; simp at hp ⊢; simp [hp]; done)) (hd : d < n := by exact lb rfl) (h1 : ddrive tab n el l ((d, v) :: ρ) = some (el', l', ρ') := by exact rfl) (h2 : norm? Y = some Y' := by exact rfl) :
    WD Try.prog n R cx ops (.b false :: el) fl (⟨some d, .call cc, ty, pos, af, none⟩ :: l) ρ Y K := WD.callQ v hc hfo hxs hargs hi o hv hro hd (WD.step tab_ok h1 h2 h)
end
section
variable {mo : Bool} {n : Nat} {R : HL} {cx : Cx} {ρ ρ' : Env} {L : List HL} {all : Array Oper} {K : Env → Prop} {d : Nat} {od : Option Nat} {op : Op} {ty t t' : TypeId} {x y c : Operand} {pos : String} {af : Array Edge} {l l' : List Oper} {v : Value}
  {b off m j sl : Nat} {fr : Nat × Nat} {lv : List Value} {e : TypeId} {want bb : Bool} {ro : HL} {post : Value → List HL → Prop}
theorem zG (h : WZ mo Try.prog n R cx all l' ρ' L K) (h1 : zdrive tab n l ρ = some (l', ρ') := by exact rfl) : WZ mo Try.prog n R cx all l ρ L K := WZ.drive tab_ok h1 h
theorem zV (o : OpVal Try.prog n R cx op ty ρ L v) (h : WZ mo Try.prog n R cx all l' ρ' L K) (hd : d < n := by exact lb rfl) (h1 : zdrive tab n l ((d, v) :: ρ) = some (l', ρ') := by exact rfl) :
    WZ mo Try.prog n R cx all (⟨some d, op, ty, pos, af, none⟩ :: l) ρ L K := WZ.val o hd (WZ.drive tab_ok h1 h)
theorem zL (h : WZ mo Try.prog n R cx all l' ρ' L K) (hx : ev? ρ x = some (.pointer (some ⟨b, off, none⟩)) := by exact rfl) (hb : At R L b (.cells lv.toArray e fr) := by repeat (first | exact oh | exact rh | exact rhF | apply ot | apply raF | apply rt))
    (hv : ldv? tab t lv off = some v := by exact rfl) (hd : d < n := by exact lb rfl) (h1 : zdrive tab n l ((d, v) :: ρ) = some (l', ρ') := by exact rfl) :
    WZ mo Try.prog n R cx all (⟨some d, .load t x, ty, pos, af, none⟩ :: l) ρ L K := WZ.val (OpVal.load tab_ok hx hb hv) hd (WZ.drive tab_ok h1 h)
theorem zGo (h : WZ mo Try.prog n R cx all l' ρ' L K) (hj : (all[j]?).bind (·.dst) = some sl := by exact rfl) (hb : ρ.get? sl = some (.bool bb) := by exact rfl)
    (hw : bb = want := by first | rfl | exact dt ‹_› | exact df ‹_› | exact ndT ‹_› | exact ndF ‹_› | (simp; done) | exact dt (by omega) | exact df (by omega) | exact ndT (by omega) | exact ndF (by omega) | omega) (h1 : zdrive tab n (⟨od, op, ty, pos, af, none⟩ :: l) ρ = some (l', ρ') := by exact rfl) : WZ mo Try.prog n R cx all (⟨od, op, ty, pos, af, some (j, want)⟩ :: l) ρ L K := WZ.guardGo hj hb hw (WZ.drive tab_ok h1 h)
theorem zSk (h : WZ mo Try.prog n R cx all l' ρ' L K) (hj : (all[j]?).bind (·.dst) = some sl := by exact rfl) (hb : ρ.get? sl = some (.bool bb) := by exact rfl)
    (hw : bb = !want := by first | rfl | exact dt ‹_› | exact df ‹_› | exact ndT ‹_› | exact ndF ‹_› | (simp; done) | exact dt (by omega) | exact df (by omega) | exact ndT (by omega) | exact ndF (by omega) | omega) (hd : d < n := by exact lb rfl) (h1 : zdrive tab n l ((d, undef) :: ρ) = some (l', ρ') := by exact rfl) : WZ mo Try.prog n R cx all (⟨some d, op, ty, pos, af, some (j, want)⟩ :: l) ρ L K := WZ.guardSkip hj hb hw hd (WZ.drive tab_ok h1 h)
theorem zUn (h : WZ mo Try.prog n R cx all l' ρ' L K) (hj : (all[j]?).bind (·.dst) = some sl := by exact rfl) (hb : ρ.get? sl = some undef := by exact rfl)
    (hd : d < n := by exact lb rfl) (h1 : zdrive tab n l ((d, undef) :: ρ) = some (l', ρ') := by exact rfl) : WZ mo Try.prog n R cx all (⟨some d, op, ty, pos, af, some (j, want)⟩ :: l) ρ L K := WZ.guardUndef hj hb hd (WZ.drive tab_ok h1 h)
theorem zPT (h : WZ mo Try.prog n R cx all l' ρ' L K) (hc : ev? ρ c = some (.bool bb) := by exact rfl) (hx : ev? ρ x = some v := by exact rfl)
    (hb : bb = true := by first | rfl | exact dt ‹_› | exact df ‹_› | exact ndT ‹_› | exact ndF ‹_› | (simp; done) | exact dt (by omega) | exact df (by omega) | exact ndT (by omega) | exact ndF (by omega) | omega) (hd : d < n := by exact lb rfl) (h1 : zdrive tab n l ((d, v) :: ρ) = some (l', ρ') := by exact rfl) : WZ mo Try.prog n R cx all (⟨some d, .pick c x y, ty, pos, af, none⟩ :: l) ρ L K := WZ.val (OpVal.pickT hc hb hx) hd (WZ.drive tab_ok h1 h)
theorem zPF (h : WZ mo Try.prog n R cx all l' ρ' L K) (hc : ev? ρ c = some (.bool bb) := by exact rfl) (hy : ev? ρ y = some v := by exact rfl)
    (hb : bb = false := by first | rfl | exact dt ‹_› | exact df ‹_› | exact ndT ‹_› | exact ndF ‹_› | (simp; done) | exact dt (by omega) | exact df (by omega) | exact ndT (by omega) | exact ndF (by omega) | omega) (hd : d < n := by exact lb rfl) (h1 : zdrive tab n l ((d, v) :: ρ) = some (l', ρ') := by exact rfl) : WZ mo Try.prog n R cx all (⟨some d, .pick c x y, ty, pos, af, none⟩ :: l) ρ L K := WZ.val (OpVal.pickF hc hb hy) hd (WZ.drive tab_ok h1 h)
theorem zC {cc : Call} {fo : Operand} {xs : Array Operand} {tys : Array TypeId} {f : FuncId} {fst us cap args : List Value}
    
    (hc : cc = ⟨.value fo, xs, tys⟩ := by exact rfl) (hfo : ev? ρ fo = some (.func (.func f) fst.toArray cap.toArray) := by exact rfl) (hxs : evs? ρ xs.toList = some us := by exact rfl) (hargs : fst ++ us ++ cap = args := by exact rfl)
    (o : Ctr Try.prog f args [] ro post) (h : WZ true Try.prog n R cx all l' ρ' L K) (hv : ∀ u L', post u L' → u = v := by (rintro _ _ ⟨rfl, _⟩; rfl)) (hro : RoIn R L ro := by repeat (first | exact RoIn.nil | exact RoIn.same | refine RoIn.cons (by first | exact at_own 0 rfl | exact at_own 1 rfl | exact at_own 2 rfl | exact at_own 3 rfl | exact at_own 4 rfl | exact at_own 5 rfl | exact at_own 6 rfl | exact at_own 7 rfl | exact at_own 8 rfl | exact at_own 9 rfl | exact at_own 10 rfl | exact at_own 11 rfl | exact at_ro 0 rfl | exact at_ro 1 rfl | exact at_ro 2 rfl | exact at_ro 3 rfl | exact at_ro 4 rfl | exact at_ro 5 rfl) ?_ | refine RoIn.append ?_ ?_ | exact RoIn.own 0 rfl | exact RoIn.own 1 rfl | exact RoIn.own 2 rfl | exact RoIn.own 3 rfl | exact RoIn.own 4 rfl | exact RoIn.own 5 rfl | exact RoIn.own 6 rfl | exact RoIn.own 7 rfl | exact RoIn.own 8 rfl | exact RoIn.own 9 rfl | exact RoIn.own 10 rfl | exact RoIn.own 11 rfl | (intro p hp; simp [hp]; done))) (hd : d < n := by exact lb rfl) (h1 : zdrive tab n l ((d, v) :: ρ) = some (l', ρ') := by exact rfl) : WZ true Try.prog n R cx all (⟨some d, .call cc, ty, pos, af, none⟩ :: l) ρ L K := WZ.call v hc hfo hxs hargs o hro hd hv (WZ.drive tab_ok h1 h)
end
section
variable {n : Nat} {R : HL} {cx : Cx} {k : List Kont} {ρ : Env} {L : List HL} {all : Array Oper} {d : Nat} {ty t : TypeId} {x : Operand} {pos : String} {af : Array Edge} {l : List Oper} {vs : List Value} {s' : Nat → List Kont} {ρ' : Nat → Env} {L' : Nat → List HL}
theorem gN {z : Value} (h : ∀ b, W Try.prog n R cx (s' b) (ρ' b) (L' b)) (hz : look? tab.zeros t = some z := by exact rfl) (hc : cells? z = some vs := by exact rfl) (hd : d < n := by exact lb rfl)
    (h1 : ∀ b, Sl.drive tab n 3000 (.ops all l :: k) ((d, .pointer (some ⟨b, 0, none⟩)) :: ρ) = some (s' b, ρ' b) := by (intro b; exact rfl)) (h2 : ∀ b, norm? ([(b, Obj.cells vs.toArray t (0, 0))] :: L) = some (L' b) := by (intro b; exact rfl)) :
    W Try.prog n R cx (.ops all (⟨some d, .alloc t, ty, pos, af, none⟩ :: l) :: k) ρ L := W.new tab_ok hz hc hd fun b => W.step tab_ok (h1 b) (h2 b) (h b)
theorem gB {z : Value} (h : ∀ b, W Try.prog n R cx (s' b) (ρ' b) (L' b)) (hz : ev? ρ x = some z := by exact rfl) (hc : cells? z = some vs := by exact rfl) (hd : d < n := by exact lb rfl)
    (h1 : ∀ b, Sl.drive tab n 3000 (.ops all l :: k) ((d, .pointer (some ⟨b, 0, none⟩)) :: ρ) = some (s' b, ρ' b) := by (intro b; exact rfl)) (h2 : ∀ b, norm? ([(b, Obj.cells vs.toArray t (0, 0))] :: L) = some (L' b) := by (intro b; exact rfl)) :
    W Try.prog n R cx (.ops all (⟨some d, .box t x, ty, pos, af, none⟩ :: l) :: k) ρ L := W.box hz hc hd fun b => W.step tab_ok (h1 b) (h2 b) (h b)
end
/-- A fact that no search takes for another one. -/
structure Kept (p : Prop) : Prop where
  it : p
/-- Whole stretches: loads and stores; and what the hypotheses decide. -/
theorem gw {p q : Prop} (hh_ : p) (t : Kept p → q := by (intro hz_; (first | refine aL ?_ | refine aS ?_ | fail); (repeat (first | refine aL ?_ | refine aS ?_ | fail)); exact hz_.it)) : q := t ⟨hh_⟩
theorem gx {p q : Prop} (hh_ : p) (t : Kept p → q := by (intro hz_; (first | refine aL ?_ | refine aS ?_ | (refine W.isGuard ?_; first | refine aGo ?_ | refine aSk ?_ | refine aUn ?_ | fail) | (refine W.isPick ?_; first | refine aPT ?_ | refine aPF ?_ | fail) | (refine W.isBin ?_; first | refine aV (OpVal.neBool tab_ok rfl rfl rfl) ?_ | refine aV (OpVal.eqBool tab_ok rfl rfl rfl) ?_ | refine aV (OpVal.eqNil tab_ok rfl rfl rfl) ?_ | refine aV (OpVal.neNil tab_ok rfl rfl rfl) ?_ | refine aV (OpVal.add rfl rfl (i64_in _ (by omega))) ?_ | refine aV (OpVal.sub rfl rfl (i64_in _ (by omega))) ?_ | fail) | (refine W.isCond ?_; first | refine aT ?_ | refine aF ?_ | fail) | fail); (repeat (first | refine aL ?_ | refine aS ?_ | (refine W.isGuard ?_; first | refine aGo ?_ | refine aSk ?_ | refine aUn ?_ | fail) | (refine W.isPick ?_; first | refine aPT ?_ | refine aPF ?_ | fail) | (refine W.isBin ?_; first | refine aV (OpVal.neBool tab_ok rfl rfl rfl) ?_ | refine aV (OpVal.eqBool tab_ok rfl rfl rfl) ?_ | refine aV (OpVal.eqNil tab_ok rfl rfl rfl) ?_ | refine aV (OpVal.neNil tab_ok rfl rfl rfl) ?_ | refine aV (OpVal.add rfl rfl (i64_in _ (by omega))) ?_ | refine aV (OpVal.sub rfl rfl (i64_in _ (by omega))) ?_ | fail) | (refine W.isCond ?_; first | refine aT ?_ | refine aF ?_ | fail) | fail)); exact hz_.it)) : q := t ⟨hh_⟩
theorem gh {p q r : Prop} (g_ : r) (hh_ : p) (t : r → Kept p → q := by (intro gg_ hz_; (first | refine aL ?_ | refine aS ?_ | (refine W.isGuard ?_; first | refine aGo ?_ | refine aSk ?_ | refine aUn ?_ | refine aGo ?_ (hw := by first | (simp [gg_]; done) | omega) | refine aSk ?_ (hw := by first | (simp [gg_]; done) | omega) | fail) | (refine W.isPick ?_; first | refine aPT ?_ | refine aPF ?_ | refine aPT ?_ (hb := by first | (simp [gg_]; done) | omega) | refine aPF ?_ (hb := by first | (simp [gg_]; done) | omega) | fail) | (refine W.isBin ?_; first | refine aV (OpVal.neBool tab_ok rfl rfl rfl) ?_ | refine aV (OpVal.eqBool tab_ok rfl rfl rfl) ?_ | refine aV (OpVal.eqNil tab_ok rfl rfl rfl) ?_ | refine aV (OpVal.neNil tab_ok rfl rfl rfl) ?_ | refine aV (OpVal.add rfl rfl (i64_in _ (by omega))) ?_ | refine aV (OpVal.sub rfl rfl (i64_in _ (by omega))) ?_ | fail) | (refine W.isCond ?_; first | refine aT ?_ | refine aF ?_ | refine aT ?_ (hb := by first | (simp [gg_]; done) | omega) | refine aF ?_ (hb := by first | (simp [gg_]; done) | omega) | fail) | fail); (repeat (first | refine aL ?_ | refine aS ?_ | (refine W.isGuard ?_; first | refine aGo ?_ | refine aSk ?_ | refine aUn ?_ | refine aGo ?_ (hw := by first | (simp [gg_]; done) | omega) | refine aSk ?_ (hw := by first | (simp [gg_]; done) | omega) | fail) | (refine W.isPick ?_; first | refine aPT ?_ | refine aPF ?_ | refine aPT ?_ (hb := by first | (simp [gg_]; done) | omega) | refine aPF ?_ (hb := by first | (simp [gg_]; done) | omega) | fail) | (refine W.isBin ?_; first | refine aV (OpVal.neBool tab_ok rfl rfl rfl) ?_ | refine aV (OpVal.eqBool tab_ok rfl rfl rfl) ?_ | refine aV (OpVal.eqNil tab_ok rfl rfl rfl) ?_ | refine aV (OpVal.neNil tab_ok rfl rfl rfl) ?_ | refine aV (OpVal.add rfl rfl (i64_in _ (by omega))) ?_ | refine aV (OpVal.sub rfl rfl (i64_in _ (by omega))) ?_ | fail) | (refine W.isCond ?_; first | refine aT ?_ | refine aF ?_ | refine aT ?_ (hb := by first | (simp [gg_]; done) | omega) | refine aF ?_ (hb := by first | (simp [gg_]; done) | omega) | fail) | fail)); exact hz_.it)) : q := t g_ ⟨hh_⟩
/-- What a fact decides. -/
theorem gd {p r : Prop} (g_ : r) (t : r → p := by (intro gg_; first | rfl | (simp [gg_]; done) | omega)) : p := t g_
theorem gc2 {p q : Prop} (a : p) (b : q) : p ∧ q := ⟨a, b⟩
theorem gc3 {p q r : Prop} (a : p) (b : q) (c : r) : p ∧ q ∧ r := ⟨a, b, c⟩
theorem gc4 {p q r s : Prop} (a : p) (b : q) (c : r) (d : s) : p ∧ q ∧ r ∧ s := ⟨a, b, c, d⟩
theorem gc5 {p q r s t : Prop} (a : p) (b : q) (c : r) (d : s) (e : t) : p ∧ q ∧ r ∧ s ∧ t := ⟨a, b, c, d, e⟩
end Go.Proofs.Ytpimbaphenignaa
