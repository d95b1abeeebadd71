/-
  The walks of this claim and the rules that they use, part four: each theorem is a contract of one function, or what such a proof asks.
-/
import Derived.Test.YtfpghdcjdnifcaaGreatZ3
import Derived.OpenShut
import Derived.ChangeArms
import Derived.ChangeMaps5
namespace Go.Proofs.YtfpghdcjdnifcaaGreat
open Go Go.Sl Go.IntWalk
set_option maxHeartbeats 8000000
set_option maxRecDepth 20000
set_option linter.unusedVariables false
theorem RiAll_spec : Ctr Tryz.prog 244 [] [] [] (fun v L' => v = .int .i64 15 ∧ L' = []) := by
 have hOf : ∀ b, Ctr Tryz.prog 274 [.slice (some ⟨b, 0, none⟩) 4 4] [] [(b, .cells #[.int .i64 1, .int .i64 2, .int .i64 4, .int .i64 8] 53 (0, 0))] (fun v L' => v = .int .i64 15 ∧ L' = []) := fun b => by
  have q : ∀ j : Nat, j < 4 → ([1, 2, 4, 8] : List Nat)[j]? = some (2 ^ j) := by decide
  have q2 : ∀ j : Nat, j < 4 → (2 ^ j - 1) ||| 2 ^ j = 2 ^ (j + 1) - 1 ∧ 2 ^ j < 16 := by decide
  refine Ctr.enter (n := 17) [.tmp 2] [(0, _)] Tryz.func274 rfl rfl rfl (lb rfl) Tryz.call274 ⟨rfl, trivial⟩ ?_
  intro cx fin fin0
  refine aG ?_
  repeat (first | refine gx ?_ | refine gN fun _ => ?_ | refine gB fun _ => ?_ | fail)
  refine aLp (fun k ρ1 L1 => ∃ j : Nat, j ≤ 4 ∧ k = 4 - j ∧ ρ1 = [(8, .int .i64 (j : Int)), (7, .int .i64 4), (6, .slice (some ⟨b, 0, none⟩) 4 4), (3, .int .i64 ((2 ^ j - 1 : Nat) : Int))] ∧ L1 = []) (o := ⟨0, by decide, rfl, rfl, rfl⟩) (h := ?_)
  rintro k ρ1 L1 ⟨j, hj, rfl, rfl, rfl⟩
  refine aG ?_
  by_cases hlt : j < 4
  ·
   have hz : (j : Int) < 4 := by omega
   have l0 : ([.int .i64 1, .int .i64 2, .int .i64 4, .int .i64 8] : List Value)[0 + j * 1]? = some (.int .i64 ((2 ^ j : Nat) : Int)) := by
    have h4 : j = 0 ∨ j = 1 ∨ j = 2 ∨ j = 3 := by omega
    rcases h4 with rfl | rfl | rfl | rfl <;> rfl
   obtain ⟨q3, q4⟩ := q2 j hlt
   have q5 : 2 ^ (j + 1) - 1 < 32 := by rw [Nat.pow_succ]; omega
   repeat (first | refine gh hz ?_ | refine gN fun _ => ?_ | refine gB fun _ => ?_ | fail)
   refine aV (OpVal.ixSl tab_ok rfl rfl rfl rfl rfl hlt) ?_
   refine aV (OpVal.load tab_ok rfl (at_ro 0 rfl) l0) ?_
   repeat (first | refine gx ?_ | refine gN fun _ => ?_ | refine gB fun _ => ?_ | fail)
   refine aV (OpVal.bitsN (a := 2 ^ j - 1) (b := 2 ^ j) (r := 2 ^ (j + 1) - 1) rfl rfl rfl rfl (by show 2 ^ j - 1 < 2 ^ 64; omega) (by show 2 ^ j < 2 ^ 64; omega) (by rw [i64_in _ (by omega)]) (.inr (.inr ⟨rfl, q3.symm⟩))) ?_
   repeat (first | refine gh hz ?_ | refine gN fun _ => ?_ | refine gB fun _ => ?_ | fail)
   refine aR (o := ⟨4 - (j + 1), by omega, j + 1, by omega, rfl, rfl, rfl⟩)
  ·
   obtain rfl : j = 4 := by omega
   repeat (first | refine gx ?_ | refine gN fun _ => ?_ | refine gB fun _ => ?_ | fail)
   refine W.ret (fin _ _ (FinOk.first 0 (.tmp rfl .nil) rfl ?_))
   exact ⟨rfl, rfl⟩
 refine Ctr.enter (n := 3) [.tmp 0] [] Tryz.func244 rfl rfl rfl (lb rfl) Tryz.call244 trivial ?_
 intro cx fin fin0
 refine aG ?_
 refine aSl (ps := [_, _, _, _]) ?_
 intro b
 refine aG ?_
 refine aC (o := hOf b) (h := ?_) (hro := RoIn.own 0 rfl)
 rintro _ _ ⟨rfl, rfl⟩
 refine aG ?_
 repeat (first | refine gx ?_ | refine gN fun _ => ?_ | refine gB fun _ => ?_ | fail)
 refine W.order [] rfl ?_
 refine W.ret (fin _ _ (FinOk.first 0 (.tmp rfl .nil) rfl ?_))
 exact ⟨rfl, rfl⟩
theorem RiMay_spec (s : Int) : Ctr Tryz.prog 131 [.int .i64 s] [] [] (fun v L' => v = .bool (decide (0 ≤ s ∧ s < 16)) ∧ L' = []) := by
 refine Ctr.enter (n := 9) [.tmp 2] [(0, _)] Tryz.func131 rfl rfl rfl (lb rfl) Tryz.call131 ⟨rfl, trivial⟩ ?_
 intro cx fin fin0
 refine aG ?_
 by_cases h : 0 ≤ s
 ·
  repeat (first | refine gh h ?_ | refine gN fun _ => ?_ | refine gB fun _ => ?_ | fail)
  refine W.ret (fin _ _ (FinOk.first 0 (.tmp rfl .nil) rfl ?_))
  exact ⟨by simp [pack, h], rfl⟩
 ·
  repeat (first | refine gh h ?_ | refine gN fun _ => ?_ | refine gB fun _ => ?_ | fail)
  refine W.ret (fin _ _ (FinOk.first 0 (.tmp rfl .nil) rfl ?_))
  exact ⟨by simp [pack, h], rfl⟩
theorem rhas_and : ∀ a b : Fin 16, rhas (a.val : Int) (b.val : Int) = decide (((a.val &&& b.val : Nat) : Int) = (b.val : Int)) := by decide +kernel
theorem RiHas_spec (s n : Int) (hs : 0 ≤ s ∧ s < 16) (hn : 0 ≤ n ∧ n < 16) : Ctr Tryz.prog 201 [.int .i64 s, .int .i64 n] [] [] (fun v L' => v = .bool (rhas s n) ∧ L' = []) := by
 obtain ⟨a, rfl⟩ := Int.eq_ofNat_of_zero_le hs.1
 obtain ⟨b, rfl⟩ := Int.eq_ofNat_of_zero_le hn.1
 have hb : a &&& b ≤ a := Nat.and_le_left
 refine Ctr.enter (n := 10) [.tmp 4] [(0, _), (1, _)] Tryz.func201 rfl rfl rfl (lb rfl) Tryz.call201 ⟨rfl, rfl, trivial⟩ ?_
 intro cx fin fin0
 refine aG ?_
 repeat (first | refine gx ?_ | refine gN fun _ => ?_ | refine gB fun _ => ?_ | fail)
 refine aV (OpVal.bitsN (a := a) (b := b) (r := a &&& b) rfl rfl rfl rfl (by show a < 2 ^ 64; omega) (by show b < 2 ^ 64; omega) (by rw [i64_in _ (by omega)]) (.inr (.inl ⟨rfl, rfl⟩))) ?_
 repeat (first | refine gx ?_ | refine gN fun _ => ?_ | refine gB fun _ => ?_ | fail)
 refine W.ret (fin _ _ (FinOk.first 0 (.tmp rfl .nil) rfl ?_))
 exact ⟨by rw [rhas_and ⟨a, by omega⟩ ⟨b, by omega⟩]; rfl, rfl⟩
def needs (op : Int) : Int := if op = 1 ∨ op = 2 ∨ op = 4 ∨ op = 8 then 1 else if op = 3 ∨ op = 7 then 2 else if op = 5 ∨ op = 6 then 4 else 0
theorem RiNeeds_spec (op : Int) : Ctr Tryz.prog 136 [.int .i64 op] [] [] (fun v L' => v = .tuple #[.int .i64 (needs op), .bool (decide (needs op ≠ 0))] ∧ L' = []) := by
 refine Ctr.enter (n := 17) [.tmp 2, .tmp 3] [(0, _)] Tryz.func136 rfl rfl rfl (lb rfl) Tryz.call136 ⟨rfl, trivial⟩ ?_
 intro cx fin fin0
 refine aG ?_
 repeat (first | refine gx ?_ | refine gN fun _ => ?_ | refine gB fun _ => ?_ | fail)
 rcases Classical.em (op = 1) with h1 | h1
 ·
  repeat (first | refine gh h1 ?_ | refine gN fun _ => ?_ | refine gB fun _ => ?_ | fail)
  refine W.ret (fin _ _ (FinOk.first 0 (.tmp rfl (.tmp rfl .nil)) rfl ?_))
  subst h1
  exact ⟨rfl, rfl⟩
 rcases Classical.em (op = 2) with h2 | h2
 ·
  repeat (first | refine gh (gc2 h1 h2) ?_ | refine gN fun _ => ?_ | refine gB fun _ => ?_ | fail)
  refine W.ret (fin _ _ (FinOk.first 0 (.tmp rfl (.tmp rfl .nil)) rfl ?_))
  subst h2
  exact ⟨rfl, rfl⟩
 rcases Classical.em (op = 4) with h4 | h4
 ·
  repeat (first | refine gh (gc3 h1 h2 h4) ?_ | refine gN fun _ => ?_ | refine gB fun _ => ?_ | fail)
  refine W.ret (fin _ _ (FinOk.first 0 (.tmp rfl (.tmp rfl .nil)) rfl ?_))
  subst h4
  exact ⟨rfl, rfl⟩
 rcases Classical.em (op = 8) with h8 | h8
 ·
  repeat (first | refine gh (gc4 h1 h2 h4 h8) ?_ | refine gN fun _ => ?_ | refine gB fun _ => ?_ | fail)
  refine W.ret (fin _ _ (FinOk.first 0 (.tmp rfl (.tmp rfl .nil)) rfl ?_))
  subst h8
  exact ⟨rfl, rfl⟩
 repeat (first | refine gh (gc4 h1 h2 h4 h8) ?_ | refine gN fun _ => ?_ | refine gB fun _ => ?_ | fail)
 rcases Classical.em (op = 3) with h3 | h3
 ·
  repeat (first | refine gh h3 ?_ | refine gN fun _ => ?_ | refine gB fun _ => ?_ | fail)
  refine W.ret (fin _ _ (FinOk.first 0 (.tmp rfl (.tmp rfl .nil)) rfl ?_))
  subst h3
  exact ⟨rfl, rfl⟩
 rcases Classical.em (op = 7) with h7 | h7
 ·
  repeat (first | refine gh (gc2 h3 h7) ?_ | refine gN fun _ => ?_ | refine gB fun _ => ?_ | fail)
  refine W.ret (fin _ _ (FinOk.first 0 (.tmp rfl (.tmp rfl .nil)) rfl ?_))
  subst h7
  exact ⟨rfl, rfl⟩
 repeat (first | refine gh (gc2 h3 h7) ?_ | refine gN fun _ => ?_ | refine gB fun _ => ?_ | fail)
 rcases Classical.em (op = 6) with h6 | h6
 ·
  repeat (first | refine gh h6 ?_ | refine gN fun _ => ?_ | refine gB fun _ => ?_ | fail)
  refine W.ret (fin _ _ (FinOk.first 0 (.tmp rfl (.tmp rfl .nil)) rfl ?_))
  subst h6
  exact ⟨rfl, rfl⟩
 rcases Classical.em (op = 5) with h5 | h5
 ·
  repeat (first | refine gh (gc2 h6 h5) ?_ | refine gN fun _ => ?_ | refine gB fun _ => ?_ | fail)
  refine W.ret (fin _ _ (FinOk.first 0 (.tmp rfl (.tmp rfl .nil)) rfl ?_))
  subst h5
  exact ⟨rfl, rfl⟩
 repeat (first | refine gh (gc2 h6 h5) ?_ | refine gN fun _ => ?_ | refine gB fun _ => ?_ | fail)
 refine W.ret (fin _ _ (FinOk.first 0 (.tmp rfl (.tmp rfl .nil)) rfl ?_))
 have e : needs op = 0 := by unfold needs; rw [if_neg (by omega), if_neg (by omega), if_neg (by omega)]
 rw [e]
 exact ⟨rfl, rfl⟩
def css (s : List Cs) : List Value := s.flatMap Cs.l
theorem css_len (s : List Cs) : (css s).length = s.length * 3 := flatMap_len Cs.l 3 (fun _ => rfl) s
def TbAt (t : Tb) (b : Nat) (H : HL) : Prop := H = [(b, Obj.cells (List.toArray (.int .i64 t.e :: .int .i64 t.n :: css t.s)) 217 (0, 0))] ∧ t.Inv
theorem indexN {n : Nat} {R : HL} {cx : Cx} {ρ : Env} {L : List HL} {t e ty : TypeId} {x y : Operand} {l vs : List Value} {len j m : Nat} {kk : IntKind} {i : Int}
  (hx : ev? ρ x = some (.agg l.toArray)) (hy : ev? ρ y = some (.int kk i)) (ht : look? tab.ars t = some (len, e)) (hz : look? tab.tys e = some (true, m))
  (hi : natOf? i = some j) (hj : j < len) (hv : seg? l (j * m) m = some vs) : OpVal Tryz.prog n R cx (.index t x y) ty ρ L (.agg vs.toArray) := by
 refine ⟨fun oo a w ho hty hf hs => ?_⟩
 have h1 := tab_ok.ars _ (look?_mem ht)
 have h2 := tab_ok.tys _ (look?_mem hz)
 obtain ⟨h3, h4⟩ := seg?_eq _ _ _ hv
 rw [natOf?_eq hi] at hy
 unfold execOp; rw [ho]
 simp [hf.ev hx, hf.ev hy, Instr.index, asIntOf, underlying, h1, h2.2 w, hj, part, h2.1 w]
 rw [h4]
theorem css_seg {s : List Cs} {j : Nat} (h : j < s.length) : seg? (css s) (j * 3) 3 = some (s[j]).l := by
 have := RoSl.elem (f := Cs.l) (m := 3) (xs := s) (l := css s) (off := 0) (fun _ => rfl) (by rw [css_len]; omega) (by rw [List.drop_zero, ← css_len, List.take_length]; rfl) h
 rwa [Nat.zero_add] at this
def capL (c : Int × Int) : List Value := [.int .i64 c.1, .int .i64 c.2]
def capsL (l : List (Int × Int)) : List Value := l.flatMap capL
theorem alls_snoc : ∀ (k : Int) (s : List Cs) (x : Cs), alls k (s ++ [x]) = alls k s ++ (if x.u then [(k + s.length, x.g)] else [])
 | k, [], x => by simp [alls]
 | k, y :: s, x => by
  rw [List.cons_append, alls, alls, alls_snoc (k + 1) s x, List.append_assoc]
  congr 2
  rw [List.length_cons]
  split
  · simp; omega
  · rfl
theorem alls_len : ∀ (k : Int) (s : List Cs), (alls k s).length ≤ s.length
 | _, [] => Nat.le_refl _
 | k, x :: s => by
  have := alls_len (k + 1) s
  rw [alls, List.length_append, List.length_cons]
  split <;> simp <;> omega
theorem TAll_spec (t : Tb) (b : Nat) (H : HL) (h : TbAt t b H) : Ctr Tryz.prog 128 [.pointer (some ⟨b, 0, none⟩)] [] H (fun v L' => ∃ a c H', v = .slice a t.all.length c ∧ L' = [H'] ∧ Own 2 33 (capsL t.all) a t.all.length c H') := by
 obtain ⟨rfl, hi⟩ := h
 have h8 := hi.len
 have hld : ldv? tab 215 (.int .i64 t.e :: .int .i64 t.n :: css t.s) 2 = some (.agg (css t.s).toArray) := by
  have hty : look? tab.tys 215 = some (true, 24) := rfl
  unfold ldv?
  rw [hty]
  simp only
  rw [seg?_of _ _ _ (by simp [css_len, h8])]
  simp only [List.drop_succ_cons, List.drop_zero]
  rw [List.take_of_length_le (by rw [css_len, h8]; decide)]
 unfold Tb.all
 refine Ctr.enter (n := 25) [.tmp 2] [(0, _)] Tryz.func128 rfl rfl rfl (lb rfl) Tryz.call128 ⟨rfl, trivial⟩ ?_
 intro cx fin fin0
 refine aG ?_
 repeat (first | refine gx ?_ | refine gN fun _ => ?_ | refine gB fun _ => ?_ | fail)
 refine aV (OpVal.load tab_ok rfl (at_ro 0 rfl) hld) ?_
 refine W.nilChunk ?_
 refine aLp (fun k ρ1 L1 => ∃ (j : Nat) (cs : List (Int × Int)) (a : Option Addr) (c : Nat) (H' : HL), j ≤ 8 ∧ k = 8 - j ∧ cs = alls 0 (t.s.take j) ∧ Own 2 33 (capsL cs) a cs.length c H' ∧ ρ1 = [(10, .int .i64 (j : Int)), (9, .agg (css t.s).toArray), (3, .slice a cs.length c)] ∧ L1 = [H']) (o := ⟨0, [], none, 0, [], by decide, rfl, rfl, Own.nil 2 _, rfl, rfl⟩) (h := ?_)
 rintro k ρ1 L1 ⟨j, cs, a, c, H', hj, rfl, hcs, how, rfl, rfl⟩
 refine aG ?_
 by_cases hlt : j < 8
 ·
  have hz : (j : Int) < 8 := by omega
  have hjs : j < t.s.length := by omega
  have hsg := css_seg hjs
  have hnx : alls 0 (t.s.take (j + 1)) = cs ++ (if (t.s[j]).u then [((j : Int), (t.s[j]).g)] else []) := by
   rw [List.take_succ_eq_append_getElem hjs, alls_snoc, ← hcs, List.length_take, Nat.min_eq_left (by omega), Int.zero_add]
  have hcl : cs.length ≤ 8 := by rw [hcs]; have := alls_len 0 (t.s.take j); rw [List.length_take] at this; omega
  generalize t.s[j] = x at *
  obtain ⟨u, g, o⟩ := x
  repeat (first | refine gh hz ?_ | refine gN fun _ => ?_ | refine gB fun _ => ?_ | fail)
  refine aV (indexN rfl rfl rfl rfl rfl hlt hsg) ?_
  repeat (first | refine gx ?_ | refine gN fun _ => ?_ | refine gB fun _ => ?_ | fail)
  cases u with
  | true =>
   repeat (first | refine gx ?_ | refine gN fun _ => ?_ | refine gB fun _ => ?_ | fail)
   refine aBu (ps := [_, _]) ?_
   refine aSl (ps := [_]) ?_
   intro bt
   refine aG ?_
   refine aAp (how) ?_
   rintro _ _ ⟨_, _, _, rfl, rfl, ho⟩
   refine aG ?_
   repeat (first | refine gh hz ?_ | refine gN fun _ => ?_ | refine gB fun _ => ?_ | fail)
   have e2 : capsL cs ++ [.int .i64 (j : Int), .int .i64 g] = capsL (cs ++ [((j : Int), g)]) := by simp [capsL, capL]
   rw [e2] at ho
   obtain ⟨cs2, hc2⟩ : ∃ cs2, cs2 = cs ++ [((j : Int), g)] := ⟨_, rfl⟩
   have hl2 : cs.length + 1 = cs2.length := by rw [hc2, List.length_append]; rfl
   rw [← hc2, hl2] at ho
   rw [hl2]
   refine W.order [0] rfl ?_
   refine aR (o := ⟨8 - (j + 1), by omega, j + 1, cs2, _, _, _, by omega, rfl, by rw [hnx, hc2]; rfl, ho, rfl, rfl⟩)
  | false =>
   repeat (first | refine gh hz ?_ | refine gN fun _ => ?_ | refine gB fun _ => ?_ | fail)
   refine W.order [1] rfl ?_
   refine aR (o := ⟨8 - (j + 1), by omega, j + 1, cs, _, _, _, by omega, rfl, by rw [hnx]; simp, how, rfl, rfl⟩)
 ·
  obtain rfl : j = 8 := by omega
  rw [List.take_of_length_le (by omega)] at hcs
  subst hcs
  repeat (first | refine gx ?_ | refine gN fun _ => ?_ | refine gB fun _ => ?_ | fail)
  refine W.ret (fin _ _ (FinOk.first 1 (.tmp rfl .nil) rfl ?_))
  exact ⟨_, _, _, rfl, rfl, how⟩
theorem TRoot_spec (t : Tb) (b : Nat) (H : HL) (h : TbAt t b H) : Ctr Tryz.prog 71 [.pointer (some ⟨b, 0, none⟩)] [] H (fun v L' => v = capV t.root ∧ L' = []) := by
 obtain ⟨rfl, hi⟩ := h
 have he := hi.e
 refine Ctr.enter (n := 9) [.cell 2 33] [(0, _)] Tryz.func71 rfl rfl rfl (lb rfl) Tryz.call71 ⟨rfl, trivial⟩ ?_
 intro cx fin fin0
 refine aG ?_
 repeat (first | refine gx ?_ | refine gN fun _ => ?_ | refine gB fun _ => ?_ | fail)
 refine aV (OpVal.mul rfl rfl (i64_in _ (by omega))) ?_
 refine aBu (ps := [_]) ?_
 repeat (first | refine gx ?_ | refine gN fun _ => ?_ | refine gB fun _ => ?_ | fail)
 refine W.order [0] rfl ?_
 refine W.ret (fin _ _ (FinOk.first 0 (aRc .nil) rfl ?_))
 exact ⟨rfl, rfl⟩
def cpEq2 (x y : Int × Int) : Bool := (x.1 == y.1) && ((x.2 == y.2) && true)
theorem cap_eq (x y : Int × Int) : EqD Tryz.prog 2 33 (capV x) (capV y) (decide (x = y)) := by
 have e : cpEq2 x y = decide (x = y) := by
  obtain ⟨a, b⟩ := x
  obtain ⟨c, d⟩ := y
  unfold cpEq2
  by_cases h1 : a = c <;> by_cases h2 : b = d <;> simp [h1, h2]
 rw [← e]
 exact EqD.struct (P := Tryz.prog) (k := 1) (fs := Tryz.prog.fieldsOf 33) (by kernel_rfl) (by kernel_rfl)
  (FEqs.of_sig (sig := [(false, 3, 0), (false, 3, 1)]) (by kernel_rfl)
   ⟨_, _, rfl, rfl, FEqT.one ty_3.1 rfl rfl (EqD.int Tryz.underlying3), _, _, rfl, rfl, FEqT.one ty_3.1 rfl rfl (EqD.int Tryz.underlying3), rfl⟩)
theorem cap_guard : Tryz.prog.eqGuardType Tryz.prog.depth 33 = false := by kernel_rfl
theorem eqCap {n : Nat} {R : HL} {cx : Cx} {ρ : Env} {L : List HL} {ty t' : Nat} {x y : Operand} {f g : Int × Int} (hx : ev? ρ x = some (capV f)) (hy : ev? ρ y = some (capV g)) :
  OpVal Tryz.prog n R cx (.binOp .eql 33 x y t') ty ρ L (.bool (decide (f = g))) := OpVal.eqD (k := 2) hx hy (cap_eq f g) (by decide) cap_guard
theorem caps_at {l : List (Int × Int)} {a : Option Addr} {ro : HL} (h : RoSl 2 (capsL l) a l.length ro) {i : Nat} (hi : i < l.length) :
  ∃ b off q e fr, a = some ⟨b, off, none⟩ ∧ ro = [(b, .cells (List.toArray q) e fr)] ∧ ldv? tab 33 q (off + i * 2) = some (capV l[i]) := by
 obtain ⟨b, off, q, e, fr, h1, h2, h3, -⟩ := RoSl.at (f := capL) (m := 2) (fun _ => rfl) h hi
 refine ⟨b, off, q, e, fr, h1, h2, ?_⟩
 have hty : look? tab.tys 33 = some (true, 2) := rfl
 unfold ldv?
 rw [hty]
 simp only
 rw [h3]
 rfl
theorem Contains_spec (l : List (Int × Int)) (hl : l.length ≤ 1000) (c : Int × Int) (a : Option Addr) (cap : Nat) (ro : HL) (hro : RoSl 2 (capsL l) a l.length ro) :
  Ctr Tryz.prog 242 [.slice a l.length cap, capV c] [] ro (fun v L' => v = .bool (decide (c ∈ l)) ∧ L' = []) := by
 have hI : Ctr Tryz.prog 273 [.slice a l.length cap, capV c] [] ro (fun v L' => ∃ k : Int, v = .int .i64 k ∧ L' = [] ∧ ((c ∈ l ∧ 0 ≤ k) ∨ (c ∉ l ∧ k = -1))) := by
  obtain ⟨cs, cg⟩ := c
  simp only [capV]
  refine Ctr.enter (n := 19) [.tmp 4] [(0, _), (1, _)] Tryz.func273 rfl rfl rfl (lb rfl) Tryz.call273 ⟨rfl, rfl, trivial⟩ ?_
  intro cx fin fin0
  refine aG ?_
  repeat (first | refine gx ?_ | refine gN fun _ => ?_ | refine gB fun _ => ?_ | fail)
  rename_i b3
  refine aLp (fun k ρ1 L1 => ∃ j : Nat, j ≤ l.length ∧ (cs, cg) ∉ l.take j ∧ k = l.length - j ∧ ρ1 = [(8, .int .i64 (j : Int)), (7, .int .i64 (l.length : Int)), (0, .slice a l.length cap), (3, .pointer (some ⟨b3, 0, none⟩))] ∧ L1 = [[(b3, .cells #[.int .i64 cs, .int .i64 cg] 33 (0, 0))]]) (o := ⟨0, Nat.zero_le _, by simp, rfl, rfl, rfl⟩) (h := ?_)
  rintro k ρ1 L1 ⟨j, hj, hno, rfl, rfl, rfl⟩
  refine aG ?_
  rcases Classical.em ((j : Int) < (l.length : Int)) with hz | hz
  case' inr =>
   obtain rfl : j = l.length := by omega
   rw [List.take_length] at hno
   repeat (first | refine gh hz ?_ | refine gN fun _ => ?_ | refine gB fun _ => ?_ | fail)
   refine W.order [] rfl ?_
   refine W.ret (fin _ _ (FinOk.first 0 (.tmp rfl .nil) rfl ?_))
   exact ⟨-1, rfl, rfl, .inr ⟨hno, rfl⟩⟩
  have hlt : j < l.length := by omega
  obtain ⟨bx, ox, lx, ex, frx, rfl, rfl, hld⟩ := caps_at hro hlt
  have hmem : l[j] ∈ l := List.getElem_mem hlt
  have hnx : l.take (j + 1) = l.take j ++ [l[j]] := List.take_succ_eq_append_getElem hlt
  generalize l[j] = x at *
  repeat (first | refine gh hz ?_ | refine gN fun _ => ?_ | refine gB fun _ => ?_ | fail)
  refine W.draw follows (by decide +kernel) (zG ?_)
  refine gzx ?_
  refine zV (OpVal.ixSl tab_ok rfl rfl rfl rfl rfl hlt) ?_
  refine zV (OpVal.load tab_ok rfl (at_ro 0 rfl) hld) ?_
  refine zV (eqCap (f := (cs, cg)) (g := x) rfl rfl) ?_
  refine WZ.nil (aG ?_)
  by_cases he : (cs, cg) = x
  ·
   repeat (first | refine gh he ?_ | refine gN fun _ => ?_ | refine gB fun _ => ?_ | fail)
   refine W.order [] rfl ?_
   refine W.ret (fin _ _ (FinOk.first 0 (.tmp rfl .nil) rfl ?_))
   exact ⟨_, rfl, rfl, .inl ⟨by rw [he]; exact hmem, by omega⟩⟩
  ·
   repeat (first | refine gh (gc2 hz he) ?_ | refine gN fun _ => ?_ | refine gB fun _ => ?_ | fail)
   refine W.order [0] rfl ?_
   refine aR (o := ⟨l.length - (j + 1), by omega, j + 1, hlt, by rw [hnx]; simp [hno, he], rfl, rfl, rfl⟩)
 obtain ⟨cs, cg⟩ := c
 simp only [capV] at *
 refine Ctr.enter (n := 9) [.tmp 4] [(0, _), (1, _)] Tryz.func242 rfl rfl rfl (lb rfl) Tryz.call242 ⟨rfl, rfl, trivial⟩ ?_
 intro cx fin fin0
 refine aG ?_
 repeat (first | refine gx ?_ | refine gN fun _ => ?_ | refine gB fun _ => ?_ | fail)
 refine aC (o := hI) (h := ?_) (hro := RoIn.same)
 rintro _ _ ⟨k, rfl, rfl, hk⟩
 refine aG ?_
 repeat (first | refine gx ?_ | refine gN fun _ => ?_ | refine gB fun _ => ?_ | fail)
 refine W.order [] rfl ?_
 refine W.ret (fin _ _ (FinOk.first 0 (.tmp rfl .nil) rfl ?_))
 refine ⟨?_, rfl⟩
 rcases hk with ⟨h1, h2⟩ | ⟨h1, rfl⟩
 · simp [pack, h1, h2]
 · simp [pack, h1]
theorem all_slot {t : Tb} (hi : t.Inv) {c : Int × Int} (h : c ∈ t.all) : ∃ i : Nat, ∃ h : i < t.s.length, i < 8 ∧ c.1 = (i : Int) ∧ t.own c.1 = (t.s[i]).o := by
 obtain ⟨i, h1, h2, rfl⟩ := mem_alls.1 h
 have := hi.len
 refine ⟨i, h1, by omega, by simp, ?_⟩
 simp only [Int.zero_add]
 unfold Tb.own
 rw [Int.toNat_natCast, List.getD_eq_getElem?_getD, List.getElem?_eq_getElem h1, Option.getD_some]
theorem slot_get {t : Tb} {i k : Nat} (h : i < t.s.length) (hk : k < 3) (e n : Value) : (e :: n :: css t.s)[2 + i * 3 + k]? = ((t.s[i]).l)[k]? := by
 rw [show 2 + i * 3 + k = (i * 3 + k) + 1 + 1 from by omega, List.getElem?_cons_succ, List.getElem?_cons_succ]
 have := seg?_get (css_seg h) hk
 rw [← this]
theorem TRights_spec (t : Tb) (b : Nat) (H : HL) (h : TbAt t b H) (c : Int × Int) : Ctr Tryz.prog 191 [.pointer (some ⟨b, 0, none⟩), capV c] [] H (fun v L' => v = .tuple #[.int .i64 (t.rights c).1, .int .i64 (t.rights c).2] ∧ L' = []) := by
 have hA := TAll_spec t b H h
 have hl8 := alls_len 0 t.s
 obtain ⟨rfl, hi⟩ := h
 have hC := fun a cap r hr => Contains_spec t.all (by show (alls 0 t.s).length ≤ 1000; rw [hi.len] at hl8; omega) c a cap r hr
 have hs := all_slot hi (c := c)
 unfold Tb.rights
 obtain ⟨cs, cg⟩ := c
 simp only [capV] at *
 refine Ctr.enter (n := 19) [.tmp 4, .tmp 5] [(0, _), (1, _)] Tryz.func191 rfl rfl rfl (lb rfl) Tryz.call191 ⟨rfl, rfl, trivial⟩ ?_
 intro cx fin fin0
 refine aG ?_
 repeat (first | refine gx ?_ | refine gN fun _ => ?_ | refine gB fun _ => ?_ | fail)
 refine W.drawH tab_ok 4 [.b false, .b true, .b false, .b true] [] follows (by decide +kernel) (by decide +kernel) rfl (by decide) rfl ?_
 intro _
 refine dG ?_
 refine gdx ?_
 refine dC (o := hA) (h := ?_) (hro := RoIn.all (fun q hq => List.mem_append_right _ hq))
 rintro _ _ ⟨a, cp, H', rfl, rfl, ho⟩
 refine dG ?_
 refine gdx ?_
 refine dC (o := hC a cp H' (Own.roSl ho)) (h := ?_) (hro := RoIn.own 0 rfl)
 rintro _ _ ⟨rfl, rfl⟩
 refine dG ?_
 refine WD.nil (W.dropNil (aG ?_))
 rcases Classical.em ((cs, cg) ∈ t.all) with hm | hm
 ·
  obtain ⟨i, hil, hi8, h1, h2⟩ := hs hm
  obtain rfl : cs = (i : Int) := h1
  have l0 : (.int .i64 t.e :: .int .i64 t.n :: css t.s : List Value)[2 + i * 3 + 2]? = some (.int .i64 (t.own (i : Int))) := by rw [slot_get hil (by decide), h2]; rfl
  repeat (first | refine gh hm ?_ | refine gN fun _ => ?_ | refine gB fun _ => ?_ | fail)
  refine W.drawH tab_ok 8 [.b false, .b false, .b false, .b false, .b false, .b false, .b false, .b false] [] follows (by decide +kernel) (by decide +kernel) rfl (by decide) rfl ?_
  intro _
  refine dG ?_
  refine gdx ?_
  refine dV (OpVal.ixAr tab_ok rfl rfl rfl rfl rfl hi8) ?_
  refine dV (OpVal.load tab_ok rfl (show At _ _ b (.cells (List.toArray (.int .i64 t.e :: .int .i64 t.n :: css t.s)) 217 (0, 0)) from .inr (by simp)) l0) ?_
  refine WD.nil (W.dropNil (aG ?_))
  repeat (first | refine gx ?_ | refine gN fun _ => ?_ | refine gB fun _ => ?_ | fail)
  refine W.order [] rfl ?_
  refine W.ret (fin _ _ (FinOk.first 0 (.tmp rfl (.tmp rfl .nil)) rfl ?_))
  rw [if_pos hm]
  exact ⟨rfl, rfl⟩
 ·
  repeat (first | refine gh hm ?_ | refine gN fun _ => ?_ | refine gB fun _ => ?_ | fail)
  refine W.order [] rfl ?_
  refine W.ret (fin _ _ (FinOk.first 0 (.tmp rfl (.tmp rfl .nil)) rfl ?_))
  rw [if_neg hm]
  exact ⟨rfl, rfl⟩
theorem own_ok {t : Tb} (hi : t.Inv) {c : Int × Int} (h : c ∈ t.all) : 0 ≤ t.own c.1 ∧ t.own c.1 < 16 := by
 obtain ⟨i, h1, h2, h3, h4⟩ := all_slot hi h
 rw [h4]
 exact (hi.g _ (List.getElem_mem h1)).2
theorem TCheck_spec (t : Tb) (b : Nat) (H : HL) (h : TbAt t b H) (c : Int × Int) (need : Int) (hn : 0 ≤ need ∧ need < 16) : Ctr Tryz.prog 130 [.pointer (some ⟨b, 0, none⟩), capV c, .int .i64 need] [] H (fun v L' => v = .int .i64 (t.check c need) ∧ L' = []) := by
 have hR := TRights_spec t b H h c
 have hok := own_ok h.2 (c := c)
 have hH := fun h => RiHas_spec (t.own c.1) need (hok h) hn
 unfold Tb.rights at hR
 unfold Tb.check
 obtain ⟨cs, cg⟩ := c
 simp only [capV] at *
 rcases Classical.em ((cs, cg) ∈ t.all) with hm | hm
 ·
  rw [if_pos hm] at hR
  have hH2 := hH hm
  generalize rhas (t.own cs) need = q at *
  rw [if_pos hm]
  refine Ctr.enter (n := 24) [.tmp 6] [(0, _), (1, _), (2, _)] Tryz.func130 rfl rfl rfl (lb rfl) Tryz.call130 ⟨rfl, rfl, rfl, trivial⟩ ?_
  intro cx fin fin0
  refine aG ?_
  repeat (first | refine gx ?_ | refine gN fun _ => ?_ | refine gB fun _ => ?_ | fail)
  refine aC (o := hR) (h := ?_) (hro := RoIn.same)
  rintro _ _ ⟨rfl, rfl⟩
  refine aG ?_
  repeat (first | refine gx ?_ | refine gN fun _ => ?_ | refine gB fun _ => ?_ | fail)
  refine aC (o := hH2) (h := ?_)
  rintro _ _ ⟨rfl, rfl⟩
  refine aG ?_
  cases q with
  | true =>
   repeat (first | refine gx ?_ | refine gN fun _ => ?_ | refine gB fun _ => ?_ | fail)
   refine W.order [] rfl ?_
   refine W.ret (fin _ _ (FinOk.first 0 (.tmp rfl .nil) rfl ?_))
   exact ⟨rfl, rfl⟩
  | false =>
   repeat (first | refine gx ?_ | refine gN fun _ => ?_ | refine gB fun _ => ?_ | fail)
   refine W.order [] rfl ?_
   refine W.ret (fin _ _ (FinOk.first 0 (.tmp rfl .nil) rfl ?_))
   exact ⟨rfl, rfl⟩
 ·
  rw [if_neg hm] at hR
  rw [if_neg hm]
  refine Ctr.enter (n := 24) [.tmp 6] [(0, _), (1, _), (2, _)] Tryz.func130 rfl rfl rfl (lb rfl) Tryz.call130 ⟨rfl, rfl, rfl, trivial⟩ ?_
  intro cx fin fin0
  refine aG ?_
  repeat (first | refine gx ?_ | refine gN fun _ => ?_ | refine gB fun _ => ?_ | fail)
  refine aC (o := hR) (h := ?_) (hro := RoIn.same)
  rintro _ _ ⟨rfl, rfl⟩
  refine aG ?_
  repeat (first | refine gx ?_ | refine gN fun _ => ?_ | refine gB fun _ => ?_ | fail)
  refine W.order [] rfl ?_
  refine W.ret (fin _ _ (FinOk.first 0 (.tmp rfl .nil) rfl ?_))
  exact ⟨rfl, rfl⟩
theorem css_set (s : List Cs) (i : Nat) (h : i < s.length) (x : Cs) (e n : Value) : splice? (e :: n :: css s) (2 + i * 3) x.l = some (e :: n :: css (s.set i x)) := by
 have hx : x.l.length = 3 := rfl
 have e1 : (css s).take (i * 3) = css (s.take i) := by
  have : css s = css (s.take i) ++ css (s.drop i) := by unfold css; rw [← List.flatMap_append, List.take_append_drop]
  rw [this, List.take_append_of_le_length (by rw [css_len, List.length_take]; omega), List.take_of_length_le (by rw [css_len, List.length_take]; omega)]
 have e2 : (css s).drop (i * 3 + 3) = css (s.drop (i + 1)) := by
  have : css s = css (s.take (i + 1)) ++ css (s.drop (i + 1)) := by unfold css; rw [← List.flatMap_append, List.take_append_drop]
  rw [this, List.drop_append, List.drop_of_length_le (by rw [css_len, List.length_take]; omega), css_len, List.length_take]
  rw [show i * 3 + 3 - min (i + 1) s.length * 3 = 0 from by omega]
  rfl
 rw [splice?_of _ _ _ (by simp [css_len, hx]; omega), hx]
 congr 1
 rw [show 2 + i * 3 = (i * 3) + 1 + 1 from by omega, List.take_succ_cons, List.take_succ_cons, show (i * 3) + 1 + 1 + 3 = (i * 3 + 3) + 1 + 1 from by omega, List.drop_succ_cons, List.drop_succ_cons, e1, e2, List.set_eq_take_append_cons_drop, if_pos h]
 simp [css]
theorem TGive_spec (t : Tb) (hi : t.s.length = 8) (he : 1 ≤ t.e ∧ t.e ≤ 1073741824) (hn : 0 ≤ t.n ∧ t.n < 1048576) (b : Nat) (i : Nat) (hi8 : i < 8) (own : Int) (H : HL) (hH : H = [(b, Obj.cells (List.toArray (.int .i64 t.e :: .int .i64 t.n :: css t.s)) 217 (0, 0))]) :
  Ctr Tryz.prog 134 [.pointer (some ⟨b, 0, none⟩), .int .i64 (i : Int), .int .i64 own] [H] [] (fun v L' => v = capV ((i : Int), t.e * 1048576 + t.n) ∧
   L' = [[(b, Obj.cells (List.toArray (.int .i64 (t.give i own).e :: .int .i64 (t.give i own).n :: css (t.give i own).s)) 217 (0, 0))]]) := by
 subst hH
 have hil : i < t.s.length := by omega
 have hsp := css_set t.s i hil ⟨true, t.e * 1048576 + t.n, own⟩ (.int .i64 t.e) (.int .i64 t.n)
 have hl2 : i < (t.s.set i ⟨true, t.e * 1048576 + t.n, own⟩).length := by rw [List.length_set]; exact hil
 have l0 : ∀ e n : Value, (e :: n :: css (t.s.set i ⟨true, t.e * 1048576 + t.n, own⟩))[2 + i * 3 + 1]? = some (.int .i64 (t.e * 1048576 + t.n)) := fun e n => by
  have := slot_get (t := ⟨t.e, t.n, t.s.set i ⟨true, t.e * 1048576 + t.n, own⟩⟩) hl2 (k := 1) (by decide) e n
  rw [this]
  simp [Cs.l]
 unfold Tb.give
 simp only
 generalize t.s.set i ⟨true, t.e * 1048576 + t.n, own⟩ = s2 at *
 have hs1 : ∀ v : Value, splice? (.int .i64 t.e :: .int .i64 t.n :: css s2) (0 + 1) [v] = some (.int .i64 t.e :: v :: css s2) := fun v => by rw [splice?_of _ _ _ (by simp)]; simp
 refine Ctr.enter (n := 40) [.cell 6 33] [(0, _), (1, _), (2, _)] Tryz.func134 rfl rfl rfl (lb rfl) Tryz.call134 ⟨rfl, rfl, rfl, trivial⟩ ?_
 intro cx fin fin0
 refine aG ?_
 repeat (first | refine gx ?_ | refine gN fun _ => ?_ | refine gB fun _ => ?_ | fail)
 refine W.drawH tab_ok 16 [.b false, .b false, .b false, .b false, .b false, .b false, .b false, .b false, .b false, .b false, .b false, .b false, .b false, .b false, .b false, .b false] [] follows (by decide +kernel) (by decide +kernel) rfl (by decide) rfl ?_
 intro _
 refine dG ?_
 refine gdx ?_
 refine dV (OpVal.mul rfl rfl (i64_in _ (by omega))) ?_
 refine gdx ?_
 refine dV (OpVal.build (ps := [_, _, _]) tab_ok rfl rfl rfl rfl (by repeat (first | exact trivial | refine ⟨⟨_, _, _, rfl, rfl, rfl⟩, ?_⟩)) rfl) ?_
 refine gdx ?_
 refine WD.nil (W.dropNil (aG ?_))
 refine aV (OpVal.ixAr tab_ok rfl rfl rfl rfl rfl hi8) ?_
 refine W.store tab_ok rfl (Upd.there Upd.here) rfl rfl rfl rfl rfl hsp (aG ?_)
 repeat (first | refine gx ?_ | refine gN fun _ => ?_ | refine gB fun _ => ?_ | fail)
 refine W.store tab_ok rfl (Upd.there Upd.here) rfl rfl rfl rfl rfl (hs1 _) (aG ?_)
 repeat (first | refine gx ?_ | refine gN fun _ => ?_ | refine gB fun _ => ?_ | fail)
 refine aV (OpVal.ixAr tab_ok rfl rfl rfl rfl rfl hi8) ?_
 refine aV (OpVal.load tab_ok rfl (at_own 1 rfl) (l0 _ _)) ?_
 refine aBu (ps := [_, _]) ?_
 repeat (first | refine gx ?_ | refine gN fun _ => ?_ | refine gB fun _ => ?_ | fail)
 refine W.groupV [1] rfl ?_
 refine W.ret (fin _ _ (FinOk.first 1 (aRc .nil) rfl ?_))
 exact ⟨rfl, rfl⟩
theorem TNewC_spec (e : Int) (he : 1 ≤ e ∧ e ≤ 1073741824) : Ctr Tryz.prog 199 [.int .i64 e] [] [] (fun v L' => ∃ b H, v = .tuple #[.pointer (some ⟨b, 0, none⟩), .int .i64 0] ∧ L' = [H] ∧ TbAt (Tb.new e) b H) := by
 have k1 : ¬ e < 1 := by omega
 have k2 : ¬ e > 1073741824 := by omega
 have hG := fun b => TGive_spec ⟨e, 0, List.replicate 8 csNo⟩ rfl he (by show (0 : Int) ≤ 0 ∧ (0 : Int) < 1048576; decide) b 0 (by decide) 15 _ rfl
 refine Ctr.enter (n := 18) [.tmp 2, .tmp 3] [(0, _)] Tryz.func199 rfl rfl rfl (lb rfl) Tryz.call199 ⟨rfl, trivial⟩ ?_
 intro cx fin fin0
 refine aG ?_
 repeat (first | refine gh (gc2 k1 k2) ?_ | refine gN fun _ => ?_ | refine gB fun _ => ?_ | fail)
 refine aBu (ps := [_]) ?_
 repeat (first | refine gx ?_ | refine gN fun _ => ?_ | refine gB fun _ => ?_ | fail)
 rename_i b
 refine aC (o := RiAll_spec) (h := ?_)
 rintro _ _ ⟨rfl, rfl⟩
 refine aG ?_
 repeat (first | refine gx ?_ | refine gN fun _ => ?_ | refine gB fun _ => ?_ | fail)
 refine aC (o := hG b) (h := ?_)
 rintro _ _ ⟨rfl, rfl⟩
 refine aG ?_
 repeat (first | refine gx ?_ | refine gN fun _ => ?_ | refine gB fun _ => ?_ | fail)
 refine W.ret (fin _ _ (FinOk.first 1 (.tmp rfl (.tmp rfl .nil)) rfl ?_))
 exact ⟨b, _, rfl, rfl, rfl, Tb.new_inv he⟩
theorem IndexFree_spec (s : List Cs) (h8 : s.length = 8) (b : Nat) (e n : Value) : Ctr Tryz.prog 132 [.slice (some ⟨b, 0 + 2, none⟩) 8 8, .func (.func 133) #[] #[]] []
  [(b, Obj.cells (List.toArray (e :: n :: css s)) 217 (0, 0))] (fun v L' => v = .int .i64 (match s.findIdx? (fun x => !x.u) with | some i => (i : Int) | none => -1) ∧ L' = []) := by
 have hF : ∀ x : Cs, Ctr Tryz.prog 133 [.agg x.l.toArray] [] [] (fun v L' => v = .bool (!x.u) ∧ L' = []) := fun x => by
  obtain ⟨u, g, o⟩ := x
  simp only [Cs.l]
  refine Ctr.enter (n := 6) [.tmp 2] [(0, _)] Tryz.func133 rfl rfl rfl (lb rfl) Tryz.call133 ⟨rfl, trivial⟩ ?_
  intro cx fin fin0
  refine aG ?_
  repeat (first | refine gx ?_ | refine gN fun _ => ?_ | refine gB fun _ => ?_ | fail)
  refine W.order [] rfl ?_
  refine W.ret (fin _ _ (FinOk.first 0 (.tmp rfl .nil) rfl ?_))
  exact ⟨rfl, rfl⟩
 have hld : ∀ j (h : j < s.length), ldv? tab 214 (e :: n :: css s) (0 + 2 + j * 3) = some (.agg (s[j]).l.toArray) := fun j h => by
  have hty : look? tab.tys 214 = some (true, 3) := rfl
  unfold ldv?
  rw [hty]
  simp only
  have h1 := css_seg h
  obtain ⟨h2, h3⟩ := seg?_eq _ _ _ h1
  rw [seg?_of _ _ _ (by simp only [List.length_cons]; omega), show 0 + 2 + j * 3 = j * 3 + 1 + 1 from by omega, List.drop_succ_cons, List.drop_succ_cons, ← h3]
 refine Ctr.enter (n := 19) [.tmp 4] [(0, _), (1, _)] Tryz.func132 rfl rfl rfl (lb rfl) Tryz.call132 ⟨rfl, rfl, trivial⟩ ?_
 intro cx fin fin0
 refine aG ?_
 repeat (first | refine gx ?_ | refine gN fun _ => ?_ | refine gB fun _ => ?_ | fail)
 refine aLp (fun k ρ1 L1 => ∃ j : Nat, j ≤ 8 ∧ (∀ m (h : m < s.length), m < j → (s[m]).u = true) ∧ k = 8 - j ∧ ρ1 = [(8, .int .i64 (j : Int)), (7, .int .i64 8), (0, .slice (some ⟨b, 0 + 2, none⟩) 8 8), (1, .func (.func 133) #[] #[])] ∧ L1 = []) (o := ⟨0, by decide, by intro m _ h; omega, rfl, rfl, rfl⟩) (h := ?_)
 rintro k ρ1 L1 ⟨j, hj, hall, rfl, rfl, rfl⟩
 refine aG ?_
 rcases Classical.em ((j : Int) < 8) with hz | hz
 case' inr =>
  repeat (first | refine gh hz ?_ | refine gN fun _ => ?_ | refine gB fun _ => ?_ | fail)
  refine W.ret (fin _ _ (FinOk.first 0 (.tmp rfl .nil) rfl ?_))
  refine ⟨?_, rfl⟩
  have : s.findIdx? (fun x => !x.u) = none := List.findIdx?_eq_none_iff.2 fun x hx => by
   obtain ⟨m, hm, rfl⟩ := List.getElem_of_mem hx
   simp [hall m hm (by omega)]
  rw [this]
  rfl
 have hlt : j < 8 := by omega
 have hjs : j < s.length := by omega
 have hl := hld j hjs
 have hF2 := hF s[j]
 have hfd : (s[j]).u = false → s.findIdx? (fun x => !x.u) = some j := fun hu => List.findIdx?_eq_some_iff_getElem.2 ⟨hjs, by simp [hu], fun m hm => by simp [hall m (by omega) hm]⟩
 have hnx : (s[j]).u = true → ∀ m (h : m < s.length), m < j + 1 → (s[m]).u = true := fun hu m h hm => by
  rcases Nat.lt_or_ge m j with hmj | hmj
  · exact hall m h hmj
  ·
   obtain rfl : m = j := by omega
   exact hu
 generalize s[j] = x at *
 repeat (first | refine gh hz ?_ | refine gN fun _ => ?_ | refine gB fun _ => ?_ | fail)
 refine aV (OpVal.ixSl tab_ok rfl rfl rfl rfl rfl hlt) ?_
 refine aV (OpVal.load tab_ok rfl (at_ro 0 rfl) hl) ?_
 refine aC (o := hF2) (h := ?_)
 rintro _ _ ⟨rfl, rfl⟩
 refine aG ?_
 cases hu : x.u with
 | false =>
  repeat (first | refine gx ?_ | refine gN fun _ => ?_ | refine gB fun _ => ?_ | fail)
  refine W.ret (fin _ _ (FinOk.first 0 (.tmp rfl .nil) rfl ?_))
  rw [hfd hu]
  exact ⟨rfl, rfl⟩
 | true =>
  repeat (first | refine gh hz ?_ | refine gN fun _ => ?_ | refine gB fun _ => ?_ | fail)
  refine aR (o := ⟨8 - (j + 1), by omega, j + 1, by omega, hnx hu, rfl, rfl, rfl⟩)
theorem TMint_spec (t : Tb) (b : Nat) (H : HL) (h : TbAt t b H) (c : Int × Int) (s : Int) : Ctr Tryz.prog 74 [.pointer (some ⟨b, 0, none⟩), capV c, .int .i64 s] [H] [] (fun v L' => ∃ H', v = .tuple #[capV (t.mint c s).2.1, .int .i64 (t.mint c s).2.2] ∧ L' = [H'] ∧ TbAt (t.mint c s).1 b H') := by
 have h1 := TCheck_spec t b H h c 8 (by decide)
 have h2 := fun hs => TCheck_spec t b H h c s hs
 have hM := RiMay_spec s
 have hta := h
 obtain ⟨rfl, hi⟩ := h
 have hF := IndexFree_spec t.s hi.len b (.int .i64 t.e) (.int .i64 t.n)
 have hG := fun hn i hi8 => TGive_spec t hi.len hi.e hn b i hi8 s _ rfl
 have hgi := fun hn i ho => Tb.give_inv hi hn i (own := s) ho
 have hn0 := hi.n
 have hfl : ∀ i, t.free = some i → i < 8 := fun i hf => by
  have := (List.findIdx?_eq_some_iff_getElem.1 hf).1
  rw [hi.len] at this
  exact this
 unfold Tb.mint
 generalize t.check c 8 = k1 at *
 generalize t.check c s = k2 at *
 obtain ⟨cs, cg⟩ := c
 simp only [capV] at *
 refine Ctr.enter (n := 49) [.cell 6 33, .tmp 7] [(0, _), (1, _), (2, _)] Tryz.func74 rfl rfl rfl (lb rfl) Tryz.call74 ⟨rfl, rfl, rfl, trivial⟩ ?_
 intro cx fin fin0
 refine aG ?_
 repeat (first | refine gx ?_ | refine gN fun _ => ?_ | refine gB fun _ => ?_ | fail)
 refine aC (o := h1) (h := ?_) (hro := RoIn.own 2 rfl)
 rintro _ _ ⟨rfl, rfl⟩
 refine aG ?_
 rcases Classical.em (k1 = 0) with g1 | g1
 case' inr =>
  repeat (first | refine gh g1 ?_ | refine gN fun _ => ?_ | refine gB fun _ => ?_ | fail)
  refine aBu (ps := []) ?_
  repeat (first | refine gx ?_ | refine gN fun _ => ?_ | refine gB fun _ => ?_ | fail)
  refine W.groupV [2] rfl ?_
  refine W.ret (fin _ _ (FinOk.first 1 (aRc (.tmp rfl .nil)) rfl ?_))
  rw [if_pos g1]
  exact ⟨_, rfl, rfl, hta⟩
 repeat (first | refine gh g1 ?_ | refine gN fun _ => ?_ | refine gB fun _ => ?_ | fail)
 refine aC (o := hM) (h := ?_)
 rintro _ _ ⟨rfl, rfl⟩
 refine aG ?_
 rcases Classical.em (0 ≤ s ∧ s < 16) with g2 | g2
 case' inr =>
  repeat (first | refine gh g2 ?_ | refine gN fun _ => ?_ | refine gB fun _ => ?_ | fail)
  refine aBu (ps := []) ?_
  repeat (first | refine gx ?_ | refine gN fun _ => ?_ | refine gB fun _ => ?_ | fail)
  refine W.groupV [2] rfl ?_
  refine W.ret (fin _ _ (FinOk.first 1 (aRc (.tmp rfl .nil)) rfl ?_))
  rw [if_neg (fun h => h g1), if_pos g2]
  exact ⟨_, rfl, rfl, hta⟩
 repeat (first | refine gh g2 ?_ | refine gN fun _ => ?_ | refine gB fun _ => ?_ | fail)
 refine aC (o := h2 g2) (h := ?_) (hro := RoIn.own 2 rfl)
 rintro _ _ ⟨rfl, rfl⟩
 refine aG ?_
 rcases Classical.em (k2 = 0) with g3 | g3
 case' inr =>
  repeat (first | refine gh g3 ?_ | refine gN fun _ => ?_ | refine gB fun _ => ?_ | fail)
  refine aBu (ps := []) ?_
  repeat (first | refine gx ?_ | refine gN fun _ => ?_ | refine gB fun _ => ?_ | fail)
  refine W.groupV [2] rfl ?_
  refine W.ret (fin _ _ (FinOk.first 1 (aRc (.tmp rfl .nil)) rfl ?_))
  rw [if_neg (fun h => h g1), if_neg (fun h => h g2), if_pos g3]
  exact ⟨_, rfl, rfl, hta⟩
 repeat (first | refine gh g3 ?_ | refine gN fun _ => ?_ | refine gB fun _ => ?_ | fail)
 refine aV (OpVal.whole tab_ok rfl rfl rfl) ?_
 refine aC (o := hF) (h := ?_) (hro := RoIn.own 2 rfl)
 rintro _ _ ⟨rfl, rfl⟩
 refine aG ?_
 unfold Tb.free at *
 cases hf : t.s.findIdx? (fun x => !x.u) with
 | none =>
  have k0 : (-1 : Int) < 0 := by decide
  repeat (first | refine gh k0 ?_ | refine gN fun _ => ?_ | refine gB fun _ => ?_ | fail)
  refine aBu (ps := []) ?_
  repeat (first | refine gx ?_ | refine gN fun _ => ?_ | refine gB fun _ => ?_ | fail)
  refine W.groupV [2] rfl ?_
  refine W.ret (fin _ _ (FinOk.first 1 (aRc (.tmp rfl .nil)) rfl ?_))
  rw [if_neg (fun h => h g1), if_neg (fun h => h g2), if_neg (fun h => h g3)]
  simp only [hf]
  exact ⟨_, rfl, rfl, hta⟩
 | some i =>
  have k0 : ¬ (i : Int) < 0 := by omega
  rcases Classical.em (t.n ≥ 1048576) with g4 | g4
  ·
   repeat (first | refine gh (gc2 k0 g4) ?_ | refine gN fun _ => ?_ | refine gB fun _ => ?_ | fail)
   refine aBu (ps := []) ?_
   repeat (first | refine gx ?_ | refine gN fun _ => ?_ | refine gB fun _ => ?_ | fail)
   refine W.groupV [2] rfl ?_
   refine W.ret (fin _ _ (FinOk.first 1 (aRc (.tmp rfl .nil)) rfl ?_))
   rw [if_neg (fun h => h g1), if_neg (fun h => h g2), if_neg (fun h => h g3)]
   simp only [hf]
   rw [if_pos g4]
   exact ⟨_, rfl, rfl, hta⟩
  ·
   repeat (first | refine gh (gc2 k0 g4) ?_ | refine gN fun _ => ?_ | refine gB fun _ => ?_ | fail)
   refine aC (o := hG ⟨hn0.1, by omega⟩ i (hfl i hf)) (h := ?_)
   rintro _ _ ⟨rfl, rfl⟩
   refine aG ?_
   repeat (first | refine gx ?_ | refine gN fun _ => ?_ | refine gB fun _ => ?_ | fail)
   refine W.ret (fin _ _ (FinOk.first 1 (aRc (.tmp rfl .nil)) rfl ?_))
   rw [if_neg (fun h => h g1), if_neg (fun h => h g2), if_neg (fun h => h g3)]
   simp only [hf]
   rw [if_neg g4]
   exact ⟨_, rfl, rfl, rfl, hgi (by omega) i g2⟩
end Go.Proofs.YtfpghdcjdnifcaaGreat
namespace Go.Proofs.YtfpghdcjdnifcaaGreat
open Go Go.Sl Go.IntWalk
set_option maxHeartbeats 8000000
set_option maxRecDepth 20000
set_option linter.unusedVariables false
def Piles {α : Type} (P : α → Nat → HL → Prop) : List α → List Nat → HL → Prop
 | [], bs, H => bs = [] ∧ H = []
 | e :: es, bs, H => ∃ b bs' He H', bs = b :: bs' ∧ H = He ++ H' ∧ P e b He ∧ Piles P es bs' H'
section
variable {α : Type} {P : α → Nat → HL → Prop}
theorem Piles.len : ∀ {es : List α} {bs : List Nat} {H : HL}, Piles P es bs H → bs.length = es.length
 | [], bs, H, h => by obtain ⟨rfl, _⟩ := h; rfl
 | e :: es, bs, H, h => by
  obtain ⟨x, bs', He, H', rfl, rfl, _, h2⟩ := h
  simp [h2.len]
theorem Piles.snoc : ∀ {es : List α} {bs : List Nat} {H : HL} {e : α} {x : Nat} {He : HL}, Piles P es bs H → P e x He → Piles P (es ++ [e]) (bs ++ [x]) (H ++ He)
 | [], bs, H, e, x, He, h, he => by
  obtain ⟨rfl, rfl⟩ := h
  exact ⟨x, [], He, [], rfl, by simp, he, rfl, rfl⟩
 | q :: es, bs, H, e, x, He, h, he => by
  obtain ⟨y, bs', Hq, H', rfl, rfl, h1, h2⟩ := h
  exact ⟨y, bs' ++ [x], Hq, H' ++ He, rfl, by simp, h1, h2.snoc he⟩
theorem Piles.split : ∀ {es : List α} {bs : List Nat} {H : HL} {i : Nat} (hi : i < es.length), Piles P es bs H → ∃ b H1 Hi H2, bs[i]? = some b ∧ H = H1 ++ (Hi ++ H2) ∧ P es[i] b Hi ∧
   ∀ e' Hi', P e' b Hi' → Piles P (es.set i e') bs (H1 ++ (Hi' ++ H2))
 | [], _, _, _, hi, _ => absurd hi (by simp)
 | e :: es, bs, H, 0, hi, h => by
  obtain ⟨x, bs', He, H', rfl, rfl, h1, h2⟩ := h
  exact ⟨x, [], He, H', rfl, rfl, h1, fun e' Hi' he => ⟨x, bs', Hi', H', rfl, rfl, he, h2⟩⟩
 | e :: es, bs, H, i + 1, hi, h => by
  obtain ⟨x, bs', He, H', rfl, rfl, h1, h2⟩ := h
  obtain ⟨y, H1, Hi, H2, g1, rfl, g2, g3⟩ := Piles.split (i := i) (by simpa using hi) h2
  refine ⟨y, He ++ H1, Hi, H2, by simpa using g1, by simp, by simpa using g2, fun e' Hi' he => ?_⟩
  exact ⟨x, bs', He, H1 ++ (Hi' ++ H2), rfl, by simp, h1, g3 e' Hi' he⟩
theorem PtsAt.piles : ∀ {ps : List Pt} {bs : List Nat} {H : HL}, PtsAt ps bs H ↔ Piles PtAt ps bs H
 | [], bs, H => Iff.rfl
 | p :: ps, bs, H => by
  constructor
  ·
   rintro ⟨b, bs', Hp, H', h1, h2, h3, h4⟩
   exact ⟨b, bs', Hp, H', h1, h2, h3, PtsAt.piles.1 h4⟩
  ·
   rintro ⟨b, bs', Hp, H', h1, h2, h3, h4⟩
   exact ⟨b, bs', Hp, H', h1, h2, h3, PtsAt.piles.2 h4⟩
end
structure Te where
 t : Tn
 d : Dv
 fl : List Bool
 kp : List Bool
structure Pl where
 c : Cf
 l : List Te
 now : Int
 epoch : Int
 down : Int
structure TeOk (dp : Int) (x : Cp) (e : Te) : Prop where
 ti : TInv dp.toNat e.t
 pg : e.t.pages = x.p
 q : (e.t.p.fs.length : Int) = x.q
 dk : e.d.Ok
 dl : (e.d.lasts.length : Int) = 2 * x.p
structure Pl.Inv (p : Pl) : Prop where
 ok : p.c.Ok
 cin : p.c.In
 len : p.l.length = p.c.ps.length
 te : ∀ (i : Nat) e x, p.l[i]? = some e → p.c.ps[i]? = some x → TeOk p.c.dp x e
 ep : 1 ≤ p.epoch ∧ p.epoch ≤ 1073741824
 dn : 0 ≤ p.down ∧ p.down ≤ 2
 now : 0 ≤ p.now
structure DCut (p : Pl) (D : Dv) : Prop where
 ok : D.Ok
 n : (D.lasts.length : Int) = p.c.se
 head : D.head = supB p.epoch p.c
 cut : ∀ (i : Nat) (e : Te) (x : Cp), p.l[i]? = some e → p.c.ps[i]? = some x → ∀ k : Nat, (k : Int) < 2 * x.p → D.lasts[x.b.toNat + k]? = e.d.lasts[k]? ∧ D.later[x.b.toNat + k]? = e.d.later[k]?
def ownL (x : Nat × Nat × Nat) : List Value := [.pointer (some ⟨x.1, 0, none⟩), .pointer (some ⟨x.2.1, 0, none⟩), .pointer (some ⟨x.2.2, 0, none⟩)]
def Owns (bts bfs bks : List Nat) : List Value := (bts.zip (bfs.zip bks)).flatMap ownL
def plCells (p : Pl) (ac : Option Addr) (cc bd ba bs : Nat) (al : Option Addr) (cl : Nat) : List Value :=
 [.int .i64 p.c.fr, .int .i64 p.c.dp, .int .i64 p.c.se, .slice ac p.c.ps.length cc, .pointer (some ⟨bd, 0, none⟩), .pointer (some ⟨ba, 0, none⟩), .pointer (some ⟨bs, 0, none⟩), .slice al p.l.length cl, .int .i64 p.now, .int .i64 p.epoch, .int .i64 p.down]
def arCells (n bs ba bl ca : Nat) (la : List Value) : HL := [(bs, Obj.cells (List.toArray [.int .i64 (n : Int)]) 238 (0, 0)), (ba, Obj.cells (List.toArray [.slice (some ⟨bl, 0, none⟩) n ca]) 241 (0, 0)), (bl, Obj.cells (List.toArray la) 173 (0, 0))]
structure PlK (p : Pl) (ac : Option Addr) (cc bs ba bl ca : Nat) (la : List Value) (bps : List Nat) (Hk : HL) : Prop where
 cs : ∃ Hc, Hk = arCells p.l.length bs ba bl ca la ++ Hc ∧ RoSl 3 (cps p.c.ps) ac p.c.ps.length Hc ∧ p.c.ps.length ≤ cc
 ar : p.l.length ≤ ca ∧ la.take p.l.length = ptrs bps
 n : p.l.length ≤ 16
structure PlT (p : Pl) (al : Option Addr) (bts bps bfs bks : List Nat) (Ho Ht Hp Hf Hk : HL) : Prop where
 own : RoSl 3 (Owns bts bfs bks) al p.l.length Ho
 ts : Piles (fun (e : Tn × Nat) b H => TAt p.c.dp.toNat e.1 b e.2 H) ((p.l.map Te.t).zip bps) bts Ht
 ps : Piles PtAt (p.l.map fun e => e.t.p) bps Hp
 fs : Piles StAt (p.l.map Te.fl) bfs Hf
 ks : Piles StAt (p.l.map Te.kp) bks Hk
def PlAt (p : Pl) (b : Nat) (H : HL) : Prop := ∃ (D : Dv) (ac : Option Addr) (cc bd ba bs : Nat) (al : Option Addr) (cl bl : Nat) (la : List Value) (ca : Nat) (bts bps bfs bks : List Nat) (Ho Ht Hp Hf Hk Hd Hc : HL),
 H = [(b, Obj.cells (List.toArray (plCells p ac cc bd ba bs al cl)) 162 (0, 0))] ++ (Ho ++ (Ht ++ (Hp ++ (Hf ++ (Hk ++ (Hd ++ Hc)))))) ∧
 PlT p al bts bps bfs bks Ho Ht Hp Hf Hk ∧ DevAt D bd Hd ∧ DCut p D ∧ PlK p ac cc bs ba bl ca la bps Hc
def noTe : Te := ⟨Tn.new 1 1, Dv.new 1, [], []⟩
def Pl.tn (p : Pl) (i : Int) : Te := p.l.getD i.toNat noTe
def Pl.in_ (p : Pl) (i : Int) : Prop := 0 ≤ i ∧ i < p.l.length
instance (p : Pl) (i : Int) : Decidable (p.in_ i) := by unfold Pl.in_; infer_instance
def Pl.setT (p : Pl) (i : Int) (t : Tn) : Pl := { p with l := p.l.set i.toNat { p.tn i with t := t } }
def Pl.submit (p : Pl) (i : Int) (q : Rq) : Pl × Int × Int :=
 if ¬ p.in_ i then (p, 0, 1) else if p.down ≠ 0 then (p, 0, 12) else
 (p.setT i ((p.tn i).t.submit p.c.dp.toNat q p.now).1, ((p.tn i).t.submit p.c.dp.toNat q p.now).2)
def teNew (fs ks : List (List Bool)) (i : Nat) (x : Cp) : Te := ⟨Tn.new x.q.toNat x.p, Dv.new (2 * x.p).toNat, fs.getD i [], ks.getD i []⟩
def Pl.new (c : Cf) (fs ks : List (List Bool)) : Pl := ⟨c, c.ps.mapIdx (teNew fs ks), 0, 1, 0⟩
theorem Pl.tn_get {p : Pl} {i : Nat} (h : i < p.l.length) : p.tn (i : Int) = p.l[i] := by
 unfold Pl.tn
 rw [Int.toNat_natCast, List.getD_eq_getElem?_getD, List.getElem?_eq_getElem h, Option.getD_some]
theorem PlHd {p : Pl} {b : Nat} {H : HL} (h : PlAt p b H) : ∃ ac cc bd ba bs al cl, (b, Obj.cells (List.toArray (plCells p ac cc bd ba bs al cl)) 162 (0, 0)) ∈ H := by
 obtain ⟨D, ac, cc, bd, ba, bs, al, cl, bl, la, ca, bts, bps, bfs, bks, Ho, Ht, Hp, Hf, Hk, Hd, Hc, rfl, -⟩ := h
 exact ⟨ac, cc, bd, ba, bs, al, cl, List.mem_append_left _ (List.mem_singleton.2 rfl)⟩
theorem PLenP_spec (p : Pl) (b : Nat) (H : HL) (h : PlAt p b H) : Ctr Tryz.prog 38 [.pointer (some ⟨b, 0, none⟩)] [] H (fun v L' => v = .int .i64 (p.l.length : Int) ∧ L' = []) := by
 obtain ⟨ac, cc, bd, ba, bs, al, cl, hm⟩ := PlHd h
 refine Ctr.enter (n := 8) [.tmp 2] [(0, _)] Tryz.func38 rfl rfl rfl (lb rfl) Tryz.call38 ⟨rfl, trivial⟩ ?_
 intro cx fin fin0
 refine aG ?_
 refine aV (OpVal.load tab_ok rfl (.inr hm) rfl) ?_
 repeat (first | refine gx ?_ | refine gN fun _ => ?_ | refine gB fun _ => ?_ | fail)
 refine W.ret (fin _ _ (FinOk.first 0 (.tmp rfl .nil) rfl ?_))
 exact ⟨rfl, rfl⟩
theorem PNow_spec (p : Pl) (b : Nat) (H : HL) (h : PlAt p b H) : Ctr Tryz.prog 39 [.pointer (some ⟨b, 0, none⟩)] [] H (fun v L' => v = .int .i64 p.now ∧ L' = []) := by
 obtain ⟨ac, cc, bd, ba, bs, al, cl, hm⟩ := PlHd h
 refine Ctr.enter (n := 7) [.tmp 2] [(0, _)] Tryz.func39 rfl rfl rfl (lb rfl) Tryz.call39 ⟨rfl, trivial⟩ ?_
 intro cx fin fin0
 refine aG ?_
 refine aV (OpVal.load tab_ok rfl (.inr hm) rfl) ?_
 refine W.ret (fin _ _ (FinOk.first 0 (.tmp rfl .nil) rfl ?_))
 exact ⟨rfl, rfl⟩
theorem PEpoch_spec (p : Pl) (b : Nat) (H : HL) (h : PlAt p b H) : Ctr Tryz.prog 40 [.pointer (some ⟨b, 0, none⟩)] [] H (fun v L' => v = .int .i64 p.epoch ∧ L' = []) := by
 obtain ⟨ac, cc, bd, ba, bs, al, cl, hm⟩ := PlHd h
 refine Ctr.enter (n := 7) [.tmp 2] [(0, _)] Tryz.func40 rfl rfl rfl (lb rfl) Tryz.call40 ⟨rfl, trivial⟩ ?_
 intro cx fin fin0
 refine aG ?_
 refine aV (OpVal.load tab_ok rfl (.inr hm) rfl) ?_
 refine W.ret (fin _ _ (FinOk.first 0 (.tmp rfl .nil) rfl ?_))
 exact ⟨rfl, rfl⟩
theorem PReady_spec (p : Pl) (b : Nat) (H : HL) (h : PlAt p b H) : Ctr Tryz.prog 41 [.pointer (some ⟨b, 0, none⟩)] [] H (fun v L' => v = .bool (decide (p.down = 0)) ∧ L' = []) := by
 obtain ⟨ac, cc, bd, ba, bs, al, cl, hm⟩ := PlHd h
 refine Ctr.enter (n := 8) [.tmp 2] [(0, _)] Tryz.func41 rfl rfl rfl (lb rfl) Tryz.call41 ⟨rfl, trivial⟩ ?_
 intro cx fin fin0
 refine aG ?_
 refine aV (OpVal.load tab_ok rfl (.inr hm) rfl) ?_
 repeat (first | refine gx ?_ | refine gN fun _ => ?_ | refine gB fun _ => ?_ | fail)
 refine W.ret (fin _ _ (FinOk.first 0 (.tmp rfl .nil) rfl ?_))
 exact ⟨rfl, rfl⟩
theorem PIn_spec (p : Pl) (b : Nat) (H : HL) (h : PlAt p b H) (i : Int) : Ctr Tryz.prog 93 [.pointer (some ⟨b, 0, none⟩), .int .i64 i] [] H (fun v L' => v = .bool (decide (p.in_ i)) ∧ L' = []) := by
 obtain ⟨ac, cc, bd, ba, bs, al, cl, hm⟩ := PlHd h
 unfold Pl.in_
 refine Ctr.enter (n := 16) [.tmp 4] [(0, _), (1, _)] Tryz.func93 rfl rfl rfl (lb rfl) Tryz.call93 ⟨rfl, rfl, trivial⟩ ?_
 intro cx fin fin0
 refine aG ?_
 by_cases h : 0 ≤ i
 ·
  repeat (first | refine gh h ?_ | refine gN fun _ => ?_ | refine gB fun _ => ?_ | fail)
  refine aV (OpVal.load tab_ok rfl (.inr hm) rfl) ?_
  repeat (first | refine gh h ?_ | refine gN fun _ => ?_ | refine gB fun _ => ?_ | fail)
  refine W.ret (fin _ _ (FinOk.first 0 (.tmp rfl .nil) rfl ?_))
  exact ⟨by simp [pack, h], rfl⟩
 ·
  repeat (first | refine gh h ?_ | refine gN fun _ => ?_ | refine gB fun _ => ?_ | fail)
  refine W.ret (fin _ _ (FinOk.first 0 (.tmp rfl .nil) rfl ?_))
  exact ⟨by simp [pack, h], rfl⟩
end Go.Proofs.YtfpghdcjdnifcaaGreat
namespace Go.Proofs.YtfpghdcjdnifcaaGreat
open Go Go.Sl Go.IntWalk
set_option maxHeartbeats 8000000
set_option maxRecDepth 20000
structure Rq.In (q : Rq) : Prop where
 op : i64s q.op
 page : i64s q.page
 off : i64s q.off
 len : i64s q.len
end Go.Proofs.YtfpghdcjdnifcaaGreat
namespace Go.Proofs.YtfpghdcjdnifcaaGreat
open Go Go.Sl Go.IntWalk
set_option maxHeartbeats 8000000
set_option maxRecDepth 20000
end Go.Proofs.YtfpghdcjdnifcaaGreat
namespace Go.Proofs.YtfpghdcjdnifcaaGreat
open Go Go.Sl Go.IntWalk
set_option maxHeartbeats 8000000
set_option maxRecDepth 20000
def lq : Rq := ⟨1, 3, 0, 0, []⟩
def z16 : List Int := List.replicate 16 0
def l1 : Mc × Pt × Re := mBegin Mc.idle (Pt.new 1) lq
def l2 : Mc × Pt × Re := mEnd l1.1 l1.2.1 0 z16
def l3 : Mc × Pt × Re := mEnd l2.1 l2.2.1 0 z16
def l4 : Mc × Pt × Re := mBegin l3.1 l3.2.1 lq
end Go.Proofs.YtfpghdcjdnifcaaGreat
namespace Go.Sl
set_option linter.unusedVariables false
open Go Go.RowKit Go.ChangeShapes Go.WideShapes Go.Deep
theorem wf_i64 {a : Int} (h : (Lit.int .i64 a).wf = true) : i64s a := by
 simp only [Lit.wf, Bool.and_eq_true, decide_eq_true_eq] at h
 exact h
section
variable {H : Type} {enc : TypeId × Value → H} {P : Program} {w : World} {spare : Nat → Bool} {held : Bool} {X Y : Type}
structure Opens (enc : TypeId × Value → H) (P : Program) (w : World) (spare : Nat → Bool) (held : Bool) (t : TypeId) (m : Nat) (f : X → List Value) (Ok : X → Prop) : Prop where
 len : ∀ x, (f x).length = m
 cells : P.cellsOf t = m
 go : ∀ (fuel : Nat) (cs : List Value) (y : DataW H × List MemPlace), DataW.trod enc P w 0 spare held fuel t cs = some y → ∃ x, cs = f x ∧ Ok x
theorem Opens.int {t : TypeId} {kk : IntKind} {Ok : Int → Prop} (ht : P.underlying t = some (.int kk)) (hc : P.cellsOf t = 1) (hw : ∀ i, (Lit.int kk i).wf = true → Ok i) :
  Opens enc P w spare held t 1 (fun i => [Value.int kk i]) Ok :=
 ⟨fun _ => rfl, hc, fun _ _ _ h => by obtain ⟨i, rfl, _, hwf⟩ := DataW.trod_int ht h; exact ⟨i, rfl, hw i hwf⟩⟩
theorem Opens.bool {t : TypeId} (ht : P.underlying t = some .bool) (hc : P.cellsOf t = 1) : Opens enc P w spare held t 1 (fun b => [Value.bool b]) (fun _ => True) :=
 ⟨fun _ => rfl, hc, fun _ _ _ h => by obtain ⟨i, rfl, _⟩ := DataW.trod_bool ht h; exact ⟨i, rfl, trivial⟩⟩
theorem Opens.imp {t : TypeId} {m : Nat} {f f' : X → List Value} {Ok Ok' : X → Prop} (h : Opens enc P w spare held t m f Ok) (hf : ∀ x, f x = f' x) (hok : ∀ x, Ok x → Ok' x) : Opens enc P w spare held t m f' Ok' :=
 ⟨fun x => by rw [← hf]; exact h.len x, h.cells, fun fuel cs y hy => by obtain ⟨x, e, o⟩ := h.go fuel cs y hy; exact ⟨x, by rw [← hf]; exact e, hok x o⟩⟩
def SlD.l (s : SlD X) : List Value := [.slice s.a s.xs.length s.cap]
structure SlD.Ok (w : World) (m : Nat) (f : X → List Value) (okx : X → Prop) (s : SlD X) : Prop where
 ro : RoSl m (s.xs.flatMap f) s.a s.xs.length s.ro
 mem : ∀ p ∈ s.ro, w.heap[p.1]? = some p.2
 all : ∀ x ∈ s.xs, okx x
 cap : s.xs.length ≤ s.cap
 max : s.cap ≤ maxLen
theorem Opens.sl {t e : TypeId} {m : Nat} {f : X → List Value} {Ok : X → Prop} (he : Opens enc P w spare held e m f Ok) (hm : 0 < m) (ht : P.underlying t = some (.slice e)) (hct : P.cellsOf t = 1) :
  Opens enc P w spare held t 1 SlD.l (SlD.Ok w m f Ok) := by
 refine ⟨fun _ => rfl, hct, fun fuel cs y h => ?_⟩
 have hf := he.len
 have hC := he.cells
 rcases open_slice ht h with ⟨hcs, _⟩ | ⟨a', len, cap, m', n', D, Pl, hcs, _, hlc, hcm, hmm, _, hel⟩
 · exact ⟨⟨none, 0, [], []⟩, hcs, ⟨by simp, .inl ⟨rfl, rfl⟩⟩, fun _ h => (by cases h), fun _ h => (by cases h), Nat.le_refl _, by simp [maxLen]⟩
 ·
  have hml : len ≤ m' := by rw [hmm]; split <;> omega
  rw [hC] at hel
  have hel2 : ∀ i, i < len → ∃ x, (∀ j, j < m → w.cell? (a'.add (i * m + j)) = (f x)[j]?) ∧ Ok x := by
   intro i hi
   obtain ⟨cs', h1, h2⟩ := hel i (by omega)
   obtain ⟨x, rfl, hx⟩ := he.go _ _ _ h2
   obtain ⟨_, _, h3⟩ := World.cells?_some h1
   refine ⟨x, fun j hj => ?_, hx⟩
   rw [← h3 j hj, Go.Deep.add_add]
  obtain ⟨xs, hxl, hxs⟩ := choose_list _ len hel2
  by_cases h0 : len = 0
  ·
   subst h0
   have : xs = [] := List.eq_nil_of_length_eq_zero hxl
   subst this
   exact ⟨⟨some a', cap, [], []⟩, hcs, ⟨by simp, .inl ⟨rfl, rfl⟩⟩, fun _ h => (by cases h), fun _ h => (by cases h), Nat.zero_le _, hcm⟩
  ·
   subst hxl
   have c0 := (hxs 0 (by omega)).1 0 hm
   simp only [Nat.zero_mul, Nat.zero_add] at c0
   have hlt0 : 0 < (f (xs[0]'(by omega))).length := by rw [hf]; exact hm
   rw [List.getElem?_eq_getElem hlt0] at c0
   obtain ⟨c, e', fr, hb, hsp, hc0⟩ := block_of_cell c0
   have hadd0 : a'.add 0 = a' := by simp [Addr.add]
   rw [hadd0] at hb hsp hc0
   obtain ⟨b, off, sp⟩ := a'
   simp only at hsp hb hc0
   subst hsp
   have hcell : ∀ i (hi : i < xs.length), ∀ j, j < m → c.toList[off + (i * m + j)]? = (f xs[i])[j]? := by
    intro i hi j hj
    have := (hxs i hi).1 j hj
    rw [Go.Sl.Addr.add_none', cell_of_row w b _ c e' fr hb] at this
    rw [← this]; simp
   have hlen : off + xs.length * m ≤ c.toList.length := by
    have h1 := hcell (xs.length - 1) (by omega) (m - 1) (by omega)
    have hfl : m - 1 < (f (xs[xs.length - 1]'(by omega))).length := by rw [hf]; omega
    rw [List.getElem?_eq_getElem hfl] at h1
    have h2 := (List.getElem?_eq_some_iff.1 h1).1
    have h3 : xs.length * m = (xs.length - 1) * m + m := by
     rw [← Nat.succ_mul]; congr 1; omega
    omega
   refine ⟨⟨some ⟨b, off, none⟩, cap, xs, [(b, .cells c e' fr)]⟩, hcs, ⟨flatMap_len f m hf xs, .inr ⟨b, off, c.toList, e', fr, rfl, by simp, hlen, ?_⟩⟩, ?_, ?_, hlc, hcm⟩
   ·
    refine flatMap_of_segs f m hf xs _ (by simp at hlen ⊢; omega) (fun i hi => ?_)
    apply List.ext_getElem?
    intro j
    by_cases hj : j < m
    ·
     have h1 : i * m + m ≤ xs.length * m := by rw [← Nat.succ_mul]; exact Nat.mul_le_mul_right m hi
     dsimp only
     rw [List.getElem?_take, if_pos hj, List.getElem?_drop, List.getElem?_take, if_pos (by omega), List.getElem?_drop, hcell i hi j hj]
    · rw [List.getElem?_eq_none (by simp; omega), List.getElem?_eq_none (by rw [hf]; omega)]
   ·
    intro p hp
    simp at hp
    subst hp
    exact hb
   ·
    intro x hx
    obtain ⟨i, hi, rfl⟩ := List.getElem_of_mem hx
    exact (hxs i hi).2
structure OpenF (enc : TypeId × Value → H) (P : Program) (w : World) (spare : Nat → Bool) (held : Bool) (fs : List (TypeId × Nat)) (m : Nat) (f : X → List Value) (Ok : X → Prop) : Prop where
 len : ∀ x, (f x).length = m
 go : ∀ (cs : List Value), cs.length = m → (∀ (i o : Nat) (t : TypeId) (k : Nat), fs[i]? = some (t, k) → o = ((fs.take i).map (·.2)).sum → ∃ n y, DataW.trod enc P w 0 spare held n t ((cs.drop o).take k) = some y) → ∃ x, cs = f x ∧ Ok x
theorem OpenF.nil : OpenF enc P w spare held [] 0 (fun _ : Unit => []) (fun _ => True) := ⟨fun _ => rfl, fun cs h _ => ⟨(), List.eq_nil_of_length_eq_zero h, trivial⟩⟩
theorem OpenF.cons {t : TypeId} {k m : Nat} {fs : List (TypeId × Nat)} {f : X → List Value} {g : Y → List Value} {Ok : X → Prop} {Ok' : Y → Prop} (h1 : Opens enc P w spare held t k f Ok) (h2 : OpenF enc P w spare held fs m g Ok') :
  OpenF enc P w spare held ((t, k) :: fs) (k + m) (fun q : X × Y => f q.1 ++ g q.2) (fun q => Ok q.1 ∧ Ok' q.2) := by
 refine ⟨fun q => by rw [List.length_append, h1.len, h2.len], fun cs hl hg => ?_⟩
 obtain ⟨n, y, h3⟩ := hg 0 0 t k rfl rfl
 obtain ⟨x, e1, o1⟩ := h1.go _ _ _ h3
 obtain ⟨z, e2, o2⟩ := h2.go (cs.drop k) (by rw [List.length_drop]; omega) (fun i o t' k' hi ho => by
  obtain ⟨n', y', h4⟩ := hg (i + 1) (k + o) t' k' (by simpa using hi) (by simp [ho])
  exact ⟨n', y', by rw [List.drop_drop]; exact h4⟩)
 refine ⟨(x, z), ?_, o1, o2⟩
 simp only [List.drop_zero] at e1
 rw [← e1, ← e2, List.take_append_drop]
end
end Go.Sl
namespace Go.Proofs.YtfpghdcjdnifcaaGreat
open Go Go.Sl Go.IntWalk
set_option maxHeartbeats 8000000
set_option maxRecDepth 20000
structure QD where
 op : Int
 page : Int
 off : Int
 len : Int
 b : SlD Int
def QD.l (o : QD) : List Value := [.int .i64 o.op, .int .i64 o.page, .int .i64 o.off, .int .i64 o.len, .slice o.b.a o.b.xs.length o.b.cap]
structure QD.Ok (o : QD) : Prop where
 inn : Rq.In ⟨o.op, o.page, o.off, o.len, o.b.xs⟩
 ro : RoSl 1 (u8s o.b.xs) o.b.a o.b.xs.length o.b.ro
 u8 : u8ok o.b.xs
def QD.q (o : QD) : Rq := ⟨o.op, o.page, o.off, o.len, o.b.xs⟩
def QD.of (q : Int × Int × Int × Int × SlD Int × Unit) : QD := ⟨q.1, q.2.1, q.2.2.1, q.2.2.2.1, q.2.2.2.2.1⟩
section
variable {H : Type} {enc : TypeId × Value → H} {w : World} {spare : Nat → Bool} {held : Bool}
end
end Go.Proofs.YtfpghdcjdnifcaaGreat
namespace Go.Proofs.YtfpghdcjdnifcaaGreat
open Go Go.Sl Go.IntWalk
set_option maxHeartbeats 8000000
set_option maxRecDepth 20000
end Go.Proofs.YtfpghdcjdnifcaaGreat
namespace Go.Proofs.YtfpghdcjdnifcaaGreat
open Go Go.Sl Go.IntWalk
set_option maxHeartbeats 8000000
set_option maxRecDepth 20000
set_option linter.unusedVariables false
end Go.Proofs.YtfpghdcjdnifcaaGreat
namespace Go.Proofs.YtfpghdcjdnifcaaGreat
open Go Go.Sl Go.IntWalk
set_option maxHeartbeats 8000000
set_option maxRecDepth 20000
set_option linter.unusedVariables false
theorem zip_set {α β : Type} : ∀ (xs : List α) (ys : List β) (i : Nat) (a : α) (y : β), ys[i]? = some y → (xs.set i a).zip ys = (xs.zip ys).set i (a, y)
 | [], ys, i, a, y, h => by simp
 | x :: xs, [], i, a, y, h => by simp at h
 | x :: xs, z :: ys, 0, a, y, h => by
  simp only [List.getElem?_cons_zero, Option.some.injEq] at h
  subst h
  rfl
 | x :: xs, z :: ys, i + 1, a, y, h => by
  simp only [List.set_cons_succ, List.zip_cons_cons]
  rw [zip_set xs ys i a y (by simpa using h)]
theorem setT_len (p : Pl) (i : Int) (t : Tn) : (p.setT i t).l.length = p.l.length := by simp [Pl.setT]
section
variable {p : Pl} {al : Option Addr} {bts bps bfs bks : List Nat} {Ho Ht Hp Hf Hk : HL}
theorem PlT.lens (h : PlT p al bts bps bfs bks Ho Ht Hp Hf Hk) : bts.length = p.l.length ∧ bps.length = p.l.length ∧ bfs.length = p.l.length ∧ bks.length = p.l.length := by
 have h2 := h.ps.len
 have h1 := h.ts.len
 have h3 := h.fs.len
 have h4 := h.ks.len
 simp only [List.length_zip, List.length_map] at h1 h2 h3 h4
 omega
theorem PlT.own_at (h : PlT p al bts bps bfs bks Ho Ht Hp Hf Hk) {i : Nat} (hi : i < p.l.length) : ∃ bt bf bk bx ox lx ex frx, bts[i]? = some bt ∧ bfs[i]? = some bf ∧ bks[i]? = some bk ∧ al = some ⟨bx, ox, none⟩ ∧ Ho = [(bx, .cells (List.toArray lx) ex frx)] ∧
  lx[ox + i * 3 + 0]? = some (.pointer (some ⟨bt, 0, none⟩)) ∧ seg? lx (ox + i * 3) 3 = some (ownL (bt, bf, bk)) := by
 obtain ⟨h1, h2, h3, h4⟩ := h.lens
 have hz : (bts.zip (bfs.zip bks)).length = p.l.length := by simp only [List.length_zip]; omega
 have ho := h.own
 unfold Owns at ho
 rw [← hz] at ho
 obtain ⟨bx, ox, lx, ex, frx, e1, e2, e3, e4⟩ := RoSl.at (f := ownL) (m := 3) (fun _ => rfl) ho (show i < (bts.zip (bfs.zip bks)).length by omega)
 have hg : (bts.zip (bfs.zip bks))[i] = (bts[i], (bfs[i], bks[i])) := by simp
 rw [hg] at e3 e4
 exact ⟨bts[i], bfs[i], bks[i], bx, ox, lx, ex, frx, List.getElem?_eq_getElem _, List.getElem?_eq_getElem _, List.getElem?_eq_getElem _, e1, e2, e4 0 (by decide), e3⟩
theorem PlT.cut (h : PlT p al bts bps bfs bks Ho Ht Hp Hf Hk) {i : Nat} (hi : i < p.l.length) : ∃ bt bp T1 Ti T2 P1 Pi P2, bts[i]? = some bt ∧ bps[i]? = some bp ∧ Ht = T1 ++ (Ti ++ T2) ∧ Hp = P1 ++ (Pi ++ P2) ∧ TAt p.c.dp.toNat (p.tn i).t bt bp Ti ∧ PtAt (p.tn i).t.p bp Pi ∧
  ∀ t' Ti' Pi', TAt p.c.dp.toNat t' bt bp Ti' → PtAt t'.p bp Pi' → PlT (p.setT i t') al bts bps bfs bks Ho (T1 ++ (Ti' ++ T2)) (P1 ++ (Pi' ++ P2)) Hf Hk := by
 obtain ⟨h1, h2, h3, h4⟩ := h.lens
 rw [Pl.tn_get hi]
 have hbp : bps[i]? = some bps[i] := List.getElem?_eq_getElem _
 obtain ⟨bt, T1, Ti, T2, t1, t2, t3, t4⟩ := h.ts.split (i := i) (by simp only [List.length_zip, List.length_map]; omega)
 obtain ⟨bp, P1, Pi, P2, p1, p2, p3, p4⟩ := h.ps.split (i := i) (by simpa using hi)
 rw [hbp] at p1
 cases p1
 refine ⟨bt, bps[i], T1, Ti, T2, P1, Pi, P2, t1, hbp, t2, p2, by simpa using t3, by simpa using p3, fun t' Ti' Pi' g1 g2 => ?_⟩
 have hset : ∀ {β : Type} (f : Te → β), (p.setT i t').l.map f = (p.l.map f).set i (f { p.tn i with t := t' }) := fun f => by
  unfold Pl.setT
  simp only [Int.toNat_natCast]
  rw [List.map_set]
 have hsame : ∀ {β : Type} (f : Te → β), f { p.tn i with t := t' } = f (p.l[i]) → (p.setT i t').l.map f = p.l.map f := fun f hf => by
  rw [hset, hf]
  refine List.ext_getElem (by simp) fun k a b => ?_
  rw [List.getElem_set]
  split
  · rename_i hk; subst hk; simp
  · rfl
 refine ⟨?_, ?_, ?_, ?_, ?_⟩
 · rw [setT_len]; exact h.own
 ·
  rw [hset, zip_set _ _ _ _ _ hbp]
  exact t4 (t', bps[i]) Ti' g1
 ·
  rw [hset]
  exact p4 t'.p Pi' g2
 · rw [hsame Te.fl (by show (p.tn i).fl = _; rw [Pl.tn_get hi])]; exact h.fs
 · rw [hsame Te.kp (by show (p.tn i).kp = _; rw [Pl.tn_get hi])]; exact h.ks
end
theorem setT_get {p : Pl} {i : Nat} (hi : i < p.l.length) (t' : Tn) {j : Nat} {e : Te} (h : (p.setT i t').l[j]? = some e) : ∃ e0, p.l[j]? = some e0 ∧ e.d = e0.d ∧ e.fl = e0.fl ∧ e.kp = e0.kp ∧ ((j = i ∧ e.t = t') ∨ (j ≠ i ∧ e = e0)) := by
 unfold Pl.setT at h
 simp only [Int.toNat_natCast] at h
 rw [List.getElem?_set] at h
 split at h
 ·
  rename_i hj
  subst hj
  cases h
  rw [Pl.tn_get hi]
  exact ⟨p.l[i], List.getElem?_eq_getElem hi, rfl, rfl, rfl, .inl ⟨rfl, rfl⟩⟩
 ·
  rename_i hj
  exact ⟨e, h, rfl, rfl, rfl, .inr ⟨Ne.symm hj, rfl⟩⟩
theorem DCut.setT {p : Pl} {D : Dv} (h : DCut p D) {i : Nat} (hi : i < p.l.length) (t' : Tn) : DCut (p.setT i t') D := ⟨h.ok, h.n, h.head, fun j e x he hx k hk => by
 obtain ⟨e0, h1, h2, -⟩ := setT_get hi t' he
 rw [h2]
 exact h.cut j e0 x h1 hx k hk⟩
theorem PlK.setT {p : Pl} {ac : Option Addr} {cc bs ba bl ca : Nat} {la : List Value} {bps : List Nat} {Hk : HL} (h : PlK p ac cc bs ba bl ca la bps Hk) (i : Int) (t' : Tn) : PlK (p.setT i t') ac cc bs ba bl ca la bps Hk := by
 refine ⟨?_, ?_, ?_⟩ <;> rw [setT_len]
 · exact h.cs
 · exact h.ar
 · exact h.n
theorem Pl.Inv.setT {p : Pl} (h : p.Inv) {i : Nat} (hi : i < p.l.length) {t' : Tn} (h1 : TInv p.c.dp.toNat t') (h2 : t'.pages = (p.tn i).t.pages) (h3 : t'.p.fs.length = (p.tn i).t.p.fs.length) : (p.setT i t').Inv :=
 ⟨h.ok, h.cin, by rw [setT_len]; exact h.len, fun j e x he hx => by
  obtain ⟨e0, g1, g2, g3, g4, g5⟩ := setT_get hi t' he
  have hk := h.te j e0 x g1 hx
  rcases g5 with ⟨rfl, rfl⟩ | ⟨-, rfl⟩
  ·
   rw [Pl.tn_get hi] at h2 h3
   rw [List.getElem?_eq_getElem hi] at g1
   cases g1
   exact ⟨h1, by rw [h2]; exact hk.pg, by rw [h3]; exact hk.q, by rw [g2]; exact hk.dk, by rw [g2]; exact hk.dl⟩
  · exact hk, h.ep, h.dn, h.now⟩
theorem Pl.Inv.at {p : Pl} (h : p.Inv) {i : Nat} (hi : i < p.l.length) : ∃ x, p.c.ps[i]? = some x ∧ x ∈ p.c.ps ∧ TeOk p.c.dp x (p.tn i) := by
 have hl := h.len
 rw [Pl.tn_get hi]
 exact ⟨p.c.ps[i], List.getElem?_eq_getElem _, List.getElem_mem _, h.te i _ _ (List.getElem?_eq_getElem hi) (List.getElem?_eq_getElem _)⟩
theorem splT {P : Program} {n : Nat} {R : HL} {cx : Cx} {K : List Kont} {ρ : Env} {L M : List HL} {A Ho T1 Ti T2 P1 Pi P2 Z : HL} (h : L = (A ++ (Ho ++ ((T1 ++ (Ti ++ T2)) ++ ((P1 ++ (Pi ++ P2)) ++ Z)))) :: M)
  (hk : W P n R cx K ρ (A :: Ho :: T1 :: Ti :: T2 :: P1 :: Pi :: P2 :: Z :: M)) : W P n R cx K ρ L := by
 subst h
 exact W.regroup (by simp) hk
theorem PSubmit_spec (p : Pl) (hi : p.Inv) (b : Nat) (H : HL) (h : PlAt p b H) (i : Int) (hid : p.in_ i → (p.tn i).t.ids < 1000000) (q : Rq) (hu : u8ok q.data) (hl : q.data.length ≤ 1000000) (hoi : i64s q.off) (hop : i64s q.op) (aq : Option Addr) (cq : Nat) (rq : HL) (hrq : RoSl 1 (u8s q.data) aq q.data.length rq) :
  Ctr Tryz.prog 53 [.pointer (some ⟨b, 0, none⟩), .int .i64 i, q.v aq cq] [H] rq (fun v L' => ∃ H', v = .tuple #[.int .i64 (p.submit i q).2.1, .int .i64 (p.submit i q).2.2] ∧ L' = [H'] ∧ PlAt (p.submit i q).1 b H') := by
 have hI := PIn_spec p b H h i
 have hR := PReady_spec p b H h
 have hpa := h
 unfold Pl.submit
 rcases Classical.em (p.in_ i) with hin | hin
 case' inr =>
  obtain ⟨qo, qp, qf, ql, qd⟩ := q
  simp only [Rq.v]
  refine Ctr.enter (n := 33) [.tmp 6, .tmp 7] [(0, _), (1, _), (2, _)] Tryz.func53 rfl rfl rfl (lb rfl) Tryz.call53 ⟨rfl, rfl, rfl, trivial⟩ ?_
  intro cx fin fin0
  refine aG ?_
  repeat (first | refine gx ?_ | refine gN fun _ => ?_ | refine gB fun _ => ?_ | fail)
  refine aC (o := hI) (h := ?_) (hro := RoIn.own 1 rfl)
  rintro _ _ ⟨rfl, rfl⟩
  refine aG ?_
  repeat (first | refine gh hin ?_ | refine gN fun _ => ?_ | refine gB fun _ => ?_ | fail)
  refine W.groupV [1] rfl ?_
  refine W.ret (fin _ _ (FinOk.first 1 (.tmp rfl (.tmp rfl .nil)) rfl ?_))
  rw [if_pos hin]
  exact ⟨_, rfl, rfl, hpa⟩
 rcases Classical.em (p.down = 0) with hd | hd
 case' inr =>
  obtain ⟨qo, qp, qf, ql, qd⟩ := q
  simp only [Rq.v]
  refine Ctr.enter (n := 33) [.tmp 6, .tmp 7] [(0, _), (1, _), (2, _)] Tryz.func53 rfl rfl rfl (lb rfl) Tryz.call53 ⟨rfl, rfl, rfl, trivial⟩ ?_
  intro cx fin fin0
  refine aG ?_
  repeat (first | refine gx ?_ | refine gN fun _ => ?_ | refine gB fun _ => ?_ | fail)
  refine aC (o := hI) (h := ?_) (hro := RoIn.own 1 rfl)
  rintro _ _ ⟨rfl, rfl⟩
  refine aG ?_
  repeat (first | refine gh hin ?_ | refine gN fun _ => ?_ | refine gB fun _ => ?_ | fail)
  refine aC (o := hR) (h := ?_) (hro := RoIn.own 1 rfl)
  rintro _ _ ⟨rfl, rfl⟩
  refine aG ?_
  repeat (first | refine gh (gc2 hin hd) ?_ | refine gN fun _ => ?_ | refine gB fun _ => ?_ | fail)
  refine W.groupV [1] rfl ?_
  refine W.ret (fin _ _ (FinOk.first 1 (.tmp rfl (.tmp rfl .nil)) rfl ?_))
  rw [if_neg (fun h => h hin), if_pos hd]
  exact ⟨_, rfl, rfl, hpa⟩
 obtain ⟨j, rfl⟩ : ∃ j : Nat, i = (j : Int) := ⟨i.toNat, by have := hin.1; omega⟩
 have hj : j < p.l.length := by have := hin.2; omega
 obtain ⟨D, ac, cc, bd, ba, bs, al, cl, bl, la, ca, bts, bps, bfs, bks, Ho, Ht, Hp, Hf, Hk, Hd, Hc, rfl, hT, hD, hDC, hK⟩ := h
 obtain ⟨bt, bf, bk, bx, ox, lx, ex, frx, o1, o2, o3, rfl, rfl, l0, -⟩ := hT.own_at hj
 obtain ⟨bt', bp, T1, Ti, T2, P1, Pi, P2, c1, c2, rfl, rfl, ht, hp, hback⟩ := hT.cut hj
 rw [o1] at c1
 cases c1
 obtain ⟨x, hx1, hx2, hte⟩ := hi.at hj
 have hS := Submit_spec p.c.dp.toNat (p.tn j).t hte.ti (hid hin) bt bp Ti ht Pi hp q hu hl hoi hop (fun h => check_ok h hu) aq cq rq hrq p.now
 generalize (p.tn j).t.submit p.c.dp.toNat q p.now = out at *
 obtain ⟨qo, qp, qf, ql, qd⟩ := q
 simp only [Rq.v] at *
 refine Ctr.enter (n := 33) [.tmp 6, .tmp 7] [(0, _), (1, _), (2, _)] Tryz.func53 rfl rfl rfl (lb rfl) Tryz.call53 ⟨rfl, rfl, rfl, trivial⟩ ?_
 intro cx fin fin0
 refine aG ?_
 repeat (first | refine gx ?_ | refine gN fun _ => ?_ | refine gB fun _ => ?_ | fail)
 refine aC (o := hI) (h := ?_) (hro := RoIn.own 1 rfl)
 rintro _ _ ⟨rfl, rfl⟩
 refine aG ?_
 repeat (first | refine gh hin ?_ | refine gN fun _ => ?_ | refine gB fun _ => ?_ | fail)
 refine aC (o := hR) (h := ?_) (hro := RoIn.own 1 rfl)
 rintro _ _ ⟨rfl, rfl⟩
 refine aG ?_
 repeat (first | refine gh (gc2 hin hd) ?_ | refine gN fun _ => ?_ | refine gB fun _ => ?_ | fail)
 refine W.order [1, 0] rfl ?_
 refine splT rfl ?_
 refine aG ?_
 refine W.drawH tab_ok 16 [.b false, .b false, .b false, .b false, .b false, .b false, .b false, .b false, .b false, .b false, .b false, .b false, .b false, .b true, .b false, .b false] [3,6] follows (by decide +kernel) (by decide +kernel) rfl (by decide) rfl ?_
 intro _
 refine dG ?_
 refine gdx ?_
 refine dV (OpVal.ixSl tab_ok rfl rfl rfl rfl rfl hj) ?_
 refine dV (OpVal.load tab_ok rfl (show At _ _ bx (.cells lx.toArray ex frx) from .inr (by simp)) l0) ?_
 refine gdx ?_
 refine dC (o := hS) (h := ?_) (hro := RoIn.all (fun q hq => by simp [hq]))
 rintro _ _ ⟨Ti', Pi', rfl, rfl, ht', hp'⟩
 refine dG ?_
 refine gdx ?_
 refine WD.nil (W.dropNil (aG ?_))
 repeat (first | refine gx ?_ | refine gN fun _ => ?_ | refine gB fun _ => ?_ | fail)
 refine W.groupV [2, 2, 2, 0, 1, 1, 0, 0, 0] rfl ?_
 refine W.ret (fin _ _ (FinOk.first 1 (.tmp rfl (.tmp rfl .nil)) rfl ?_))
 rw [if_neg (fun h => h hin), if_neg (fun h => h hd)]
 refine ⟨_, rfl, rfl, D, ac, cc, bd, ba, bs, _, cl, bl, la, ca, bts, bps, bfs, bks, _, _, _, Hf, Hk, Hd, Hc, ?_, hback _ Ti' Pi' ht' hp', hD, hDC.setT hj _, hK.setT _ _⟩
 simp [plCells, Pl.setT]
def emptyN (p : Pt) : Int := if p.empty then 0 else 1
def Pl.empty (p : Pl) : Bool := decide (tot emptyN (p.l.map fun e => e.t.p) = 0)
end Go.Proofs.YtfpghdcjdnifcaaGreat
namespace Go.Proofs.YtfpghdcjdnifcaaGreat
open Go Go.Sl Go.IntWalk
set_option maxHeartbeats 8000000
set_option maxRecDepth 20000
set_option linter.unusedVariables false
structure Bl where
 a : Option Addr
 cap : Nat
 xs : List Bool
def Bl.v (b : Bl) : Value := .slice b.a b.xs.length b.cap
def BitsAt (bs : List Bl) (a : Option Addr) (r : HL) : Prop := ∃ r0, RoSl 1 (bs.flatMap fun b => [b.v]) a bs.length r0 ∧ (∀ q ∈ r0, q ∈ r) ∧ ∀ b ∈ bs, ∃ rb, RoSl 1 (bls b.xs) b.a b.xs.length rb ∧ (∀ q ∈ rb, q ∈ r) ∧ b.xs.length ≤ 140737488351232
theorem BitsAt.nil : BitsAt [] none [] := ⟨[], ⟨rfl, .inl ⟨rfl, rfl⟩⟩, fun _ h => (by cases h), fun _ h => (by cases h)⟩
theorem PlOf_spec (bs : List Bl) (a : Option Addr) (cap : Nat) (r : HL) (h : BitsAt bs a r) (i : Nat) :
  Ctr Tryz.prog 91 [.slice a bs.length cap, .int .i64 (i : Int)] [] r (fun v L' => ∃ b H, v = .pointer (some ⟨b, 0, none⟩) ∧ L' = [H] ∧ StAt ((bs.map Bl.xs).getD i []) b H) := by
 obtain ⟨r0, hr0, hs0, hall⟩ := h
 rcases Nat.lt_or_ge i bs.length with hlt | hge
 ·
  have hz : ¬ (i : Int) ≥ (bs.length : Int) := by omega
  obtain ⟨bx, ox, lx, ex, frx, rfl, rfl, -, hld⟩ := RoSl.at (f := fun b : Bl => [b.v]) (m := 1) (fun _ => rfl) hr0 hlt
  have l0 : lx[ox + i * 1]? = some (bs[i]).v := hld 0 (by decide)
  obtain ⟨rb, h1, h2, h3⟩ := hall _ (List.getElem_mem hlt)
  have hN := SNew_spec (bs[i]).xs h3 (bs[i]).a (bs[i]).cap rb h1
  have hg : (bs.map Bl.xs).getD i [] = (bs[i]).xs := by simp [List.getD_eq_getElem?_getD, hlt]
  rw [hg]
  generalize bs[i] = x at *
  simp only [Bl.v] at l0
  refine Ctr.enter (n := 15) [.tmp 4] [(0, _), (1, _)] Tryz.func91 rfl rfl rfl (lb rfl) Tryz.call91 ⟨rfl, rfl, trivial⟩ ?_
  intro cx fin fin0
  refine aG ?_
  repeat (first | refine gh hz ?_ | refine gN fun _ => ?_ | refine gB fun _ => ?_ | fail)
  refine aV (OpVal.ixSl tab_ok rfl rfl rfl rfl rfl hlt) ?_
  refine aV (OpVal.load tab_ok rfl (.inr (hs0 _ (List.mem_singleton.2 rfl))) l0) ?_
  repeat (first | refine gx ?_ | refine gN fun _ => ?_ | refine gB fun _ => ?_ | fail)
  refine aC (o := hN) (h := ?_) (hro := RoIn.all h2)
  rintro _ _ ⟨b, H, rfl, rfl, hst⟩
  refine aG ?_
  repeat (first | refine gx ?_ | refine gN fun _ => ?_ | refine gB fun _ => ?_ | fail)
  refine W.ret (fin _ _ (FinOk.first 1 (.tmp rfl .nil) rfl ?_))
  exact ⟨b, H, rfl, rfl, hst⟩
 ·
  have hz : (i : Int) ≥ (bs.length : Int) := by omega
  have hg : (bs.map Bl.xs).getD i [] = [] := by rw [List.getD_eq_getElem?_getD, List.getElem?_eq_none (by simpa using hge)]; rfl
  rw [hg]
  have hN := SNew_spec [] (by decide) none 0 [] ⟨rfl, .inl ⟨rfl, rfl⟩⟩
  refine Ctr.enter (n := 15) [.tmp 4] [(0, _), (1, _)] Tryz.func91 rfl rfl rfl (lb rfl) Tryz.call91 ⟨rfl, rfl, trivial⟩ ?_
  intro cx fin fin0
  refine aG ?_
  repeat (first | refine gh hz ?_ | refine gN fun _ => ?_ | refine gB fun _ => ?_ | fail)
  refine aC (o := hN) (h := ?_) (hro := RoIn.nil)
  rintro _ _ ⟨b, H, rfl, rfl, hst⟩
  refine aG ?_
  repeat (first | refine gx ?_ | refine gN fun _ => ?_ | refine gB fun _ => ?_ | fail)
  refine W.ret (fin _ _ (FinOk.first 1 (.tmp rfl .nil) rfl ?_))
  exact ⟨b, H, rfl, rfl, hst⟩
theorem new_len (c : Cf) (fs ks : List (List Bool)) : (Pl.new c fs ks).l.length = c.ps.length := by simp [Pl.new]
theorem new_at (c : Cf) (fs ks : List (List Bool)) (i : Nat) (h : i < c.ps.length) : (Pl.new c fs ks).l[i]? = some (teNew fs ks i c.ps[i]) := by simp [Pl.new, h]
theorem Cf.Ok.part {c : Cf} (h : c.Ok) {i : Nat} {x : Cp} (hx : c.ps[i]? = some x) : x.Ok c.se := h.ps x (List.mem_of_getElem? hx)
theorem new_pinv {c : Cf} (h : c.Ok) (hin : c.In) (fs ks : List (List Bool)) : (Pl.new c fs ks).Inv := by
 refine ⟨h, hin, new_len c fs ks, fun i e x he hx => ?_, ⟨by show (1 : Int) ≤ 1; decide, by show (1 : Int) ≤ 1073741824; decide⟩, ⟨by show (0 : Int) ≤ 0; decide, by show (0 : Int) ≤ 2; decide⟩, by show (0 : Int) ≤ 0; decide⟩
 have hx' : c.ps[i]? = some x := hx
 obtain ⟨hi, hxi⟩ := List.getElem?_eq_some_iff.1 hx'
 rw [new_at c fs ks i hi, hxi] at he
 cases he
 have ho := h.part hx'
 have h1 := ho.1
 have h2 := ho.2.1
 exact ⟨new_inv _ _ (by omega) (by omega) _, rfl, by show (((List.replicate x.q.toNat Fr.zero).length : Nat) : Int) = x.q; rw [List.length_replicate]; omega, Dv.new_ok (by omega) (by omega), by show (((List.replicate (2 * x.p).toNat zcell).length : Nat) : Int) = _; rw [List.length_replicate]; omega⟩
def dev0 (c : Cf) : Dv := ⟨(Dv.new c.se.toNat).lasts, (Dv.new c.se.toNat).later, supB 1 c⟩
theorem dev0_cut {c : Cf} (h : c.Ok) (fs ks : List (List Bool)) : DCut (Pl.new c fs ks) (dev0 c) := by
 have hs := h.se
 have hk := Dv.new_ok (n := c.se.toNat) (by omega) (by omega)
 have hl := h.len
 refine ⟨⟨hk.len, hk.n, hk.lu, hk.tu, sealB_ok (supBody_ok 1 c), ?_⟩, ?_, rfl, fun i e x he hx k hkk => ?_⟩
 ·
  show (supB 1 c).length ≤ 100000
  unfold supB
  rw [sealB_len, supBody_len]
  omega
 ·
  show (((List.replicate c.se.toNat zcell).length : Nat) : Int) = c.se
  rw [List.length_replicate]; omega
 ·
  have hx' : c.ps[i]? = some x := hx
  obtain ⟨hi, hxi⟩ := List.getElem?_eq_some_iff.1 hx'
  rw [new_at c fs ks i hi, hxi] at he
  cases he
  have ho := h.part hx'
  unfold Cp.Ok Cp.to at ho
  show (List.replicate c.se.toNat zcell)[x.b.toNat + k]? = (List.replicate (2 * x.p).toNat zcell)[k]? ∧ (List.replicate c.se.toNat ([] : List Int))[x.b.toNat + k]? = (List.replicate (2 * x.p).toNat [])[k]?
  rw [List.getElem?_replicate, List.getElem?_replicate, List.getElem?_replicate, List.getElem?_replicate, if_pos (by omega), if_pos (by omega), if_pos (by omega), if_pos (by omega)]
  exact ⟨rfl, rfl⟩
theorem tot_made : ∀ (ls : List Int), (∀ n ∈ ls, 0 ≤ n) → tot flen (made ls) = ls.sum := by
 intro ls h
 unfold tot made
 have : ∀ (ls : List Int) (a : Int), (∀ n ∈ ls, 0 ≤ n) → (ls.map fun n => Pt.new n.toNat).foldl (fun a p => a + flen p) a = a + ls.sum := by
  intro ls
  induction ls with
  | nil => intro a _; simp
  | cons n ls ih =>
   intro a h
   have h0 := h n (List.mem_cons_self ..)
   rw [List.map_cons, List.foldl_cons, ih _ (fun m hm => h m (List.mem_cons_of_mem _ hm)), List.sum_cons]
   have : flen (Pt.new n.toNat) = n := by unfold flen Pt.new; simp only [List.length_replicate]; omega
   rw [this]
   omega
 rw [this ls 0 h]
 omega
theorem may_cut {c : Cf} (h : c.Ok) : MayCut (c.ps.map Cp.q) := by
 have hq : ∀ n ∈ c.ps.map Cp.q, 1 ≤ n ∧ n ≤ 64 := fun n hn => by
  obtain ⟨x, hx, rfl⟩ := List.mem_map.1 hn
  exact (h.ps x hx).1
 refine ⟨by rw [List.length_map]; exact h.len.1, by rw [List.length_map]; exact h.len.2, hq, ?_⟩
 rw [tot_made _ (fun n hn => by have := hq n hn; omega), h.sum]
 exact h.fr.2
def pairL (c : Cf) (bps : List Nat) (j : Nat) : List (Tn × Nat) := (List.range j).map fun i => (Tn.new (c.ps.getD i ⟨0, 0, 0⟩).q.toNat (c.ps.getD i ⟨0, 0, 0⟩).p, bps.getD i 0)
def bitL (fs : List (List Bool)) (j : Nat) : List (List Bool) := (List.range j).map fun i => fs.getD i []
theorem pairL_all (c : Cf) (fs ks : List (List Bool)) (bps : List Nat) (hb : bps.length = c.ps.length) : ((Pl.new c fs ks).l.map Te.t).zip bps = pairL c bps c.ps.length := by
 refine List.ext_getElem (by simp [pairL, Pl.new, hb]) fun i h1 h2 => ?_
 have hi : i < c.ps.length := by simpa [pairL] using h2
 simp [pairL, Pl.new, teNew, List.getD_eq_getElem?_getD, hi, hb]
theorem bitF_all (c : Cf) (fs ks : List (List Bool)) : (Pl.new c fs ks).l.map Te.fl = bitL fs c.ps.length := by
 refine List.ext_getElem (by simp [bitL, Pl.new]) fun i h1 h2 => ?_
 simp [bitL, Pl.new, teNew]
theorem bitK_all (c : Cf) (fs ks : List (List Bool)) : (Pl.new c fs ks).l.map Te.kp = bitL ks c.ps.length := by
 refine List.ext_getElem (by simp [bitL, Pl.new]) fun i h1 h2 => ?_
 simp [bitL, Pl.new, teNew]
theorem parts_all (c : Cf) (fs ks : List (List Bool)) : ((Pl.new c fs ks).l.map fun e => e.t.p) = made (c.ps.map Cp.q) := by
 refine List.ext_getElem (by simp [made, Pl.new]) fun i h1 h2 => ?_
 simp [made, Pl.new, teNew, Tn.new]
theorem owns_snoc {bts bfs bks : List Nat} {n : Nat} (h1 : bts.length = n) (h2 : bfs.length = n) (h3 : bks.length = n) (a b c : Nat) : Owns (bts ++ [a]) (bfs ++ [b]) (bks ++ [c]) = Owns bts bfs bks ++ ownL (a, b, c) := by
 unfold Owns
 rw [List.zip_append (by omega), List.zip_append (by simp; omega), List.flatMap_append]
 simp
theorem splA {P : Program} {n : Nat} {R : HL} {cx : Cx} {K : List Kont} {ρ : Env} {L M : List HL} {x y : Nat × Obj} {Z : HL} (h : L = (x :: y :: Z) :: M) (hk : W P n R cx K ρ ([x] :: [y] :: Z :: M)) : W P n R cx K ρ L := by
 subst h
 exact W.regroup (by simp) hk
theorem POpen_spec (c : Cf) (hin : c.In) (hps : c.ps.length ≤ 9223372036854775807) (a : Option Addr) (cap : Nat) (hcap : c.ps.length ≤ cap) (ro : HL) (hro : RoSl 3 (cps c.ps) a c.ps.length ro) (fs ks : List Bl) (af : Option Addr) (cf : Nat) (rf : HL) (hf : BitsAt fs af rf) (ak : Option Addr) (ck : Nat) (rk : HL) (hk : BitsAt ks ak rk) :
  Ctr Tryz.prog 37 [c.v a cap, .slice af fs.length cf, .slice ak ks.length ck] [] (ro ++ (rf ++ rk)) (fun v L' => (¬ c.Ok ∧ v = .tuple #[.pointer none, .int .i64 3] ∧ L' = []) ∨
   (c.Ok ∧ ∃ b H, v = .tuple #[.pointer (some ⟨b, 0, none⟩), .int .i64 0] ∧ L' = [H] ∧ PlAt (Pl.new c (fs.map Bl.xs) (ks.map Bl.xs)) b H)) := by
 have hW := SupWrite_spec 1 ⟨by decide, by decide⟩ c hin hps a cap hcap ro hro
 rcases Classical.em c.Ok with hok | hno
 case' inr =>
  have hW2 := hW.post (post' := fun v L' => v = .tuple #[.slice none 0 0, .int .i64 3] ∧ L' = []) (fun v L' h => h.elim (fun h => ⟨h.2.1, h.2.2⟩) (fun h => absurd h.1.2 hno))
  refine Ctr.enter (n := 117) [.tmp 6, .tmp 7] [(0, _), (1, _), (2, _)] Tryz.func37 rfl rfl rfl (lb rfl) Tryz.call37 ⟨rfl, rfl, rfl, trivial⟩ ?_
  intro cx fin fin0
  refine aG ?_
  repeat (first | refine gx ?_ | refine gN fun _ => ?_ | refine gB fun _ => ?_ | fail)
  refine aBu (ps := [_, _]) ?_
  repeat (first | refine gx ?_ | refine gN fun _ => ?_ | refine gB fun _ => ?_ | fail)
  refine aC (o := hW2) (h := ?_) (hro := RoIn.all (fun q hq => List.mem_append_left _ hq))
  rintro _ _ ⟨rfl, rfl⟩
  refine aG ?_
  repeat (first | refine gx ?_ | refine gN fun _ => ?_ | refine gB fun _ => ?_ | fail)
  refine W.order [] rfl ?_
  refine W.ret (fin _ _ (FinOk.first 0 (.tmp rfl (.tmp rfl .nil)) rfl ?_))
  exact .inl ⟨hno, rfl, rfl⟩
 have hW2 := hW.post (post' := fun v L' => ∃ a' cap' H, v = .tuple #[.slice a' (supB 1 c).length cap', .int .i64 0] ∧ L' = [H] ∧ Own 1 5 (u8s (supB 1 c)) a' (supB 1 c).length cap' H) (fun v L' h => h.elim (fun h => absurd ⟨⟨by decide, by decide⟩, hok⟩ h.1) (fun h => h.2))
 have hl := hok.len
 have hse := hok.se
 have hC := CClone_spec c hl.1 hl.2 a cap ro hro
 have hN := (DNew_spec c.se).post (post' := fun v L' => ∃ b H, v = .tuple #[.pointer (some ⟨b, 0, none⟩), .int .i64 0] ∧ L' = [H] ∧ DevAt (Dv.new c.se.toNat) b H) (fun v L' h => h.elim (fun h => absurd hse h.1) (fun h => h.2))
 have hdk := Dv.new_ok (n := c.se.toNat) (by omega) (by omega)
 have hhl : (supB 1 c).length ≤ 100000 := by unfold supB; rw [sealB_len, supBody_len]; omega
 have hSH := fun b H h => DSetHead_spec (Dv.new c.se.toNat) hdk b H h (supB 1 c) hhl
 have hSN := SNewS_spec c.ps.length hl.1 hl.2
 have hCut := fun a cap ro hro => (Cut_spec (c.ps.map Cp.q) a cap ro hro).post (post' := fun v L' => ∃ b H, v = .tuple #[.pointer (some ⟨b, 0, none⟩), .int .i64 0] ∧ L' = [H] ∧ ArAt (made (c.ps.map Cp.q)) b H) (fun v L' h => h.elim (fun h => absurd (may_cut hok) h.1) (fun h => h.2))
 rw [List.length_map] at hCut
 refine Ctr.enter (n := 117) [.tmp 6, .tmp 7] [(0, _), (1, _), (2, _)] Tryz.func37 rfl rfl rfl (lb rfl) Tryz.call37 ⟨rfl, rfl, rfl, trivial⟩ ?_
 intro cx fin fin0
 refine aG ?_
 repeat (first | refine gx ?_ | refine gN fun _ => ?_ | refine gB fun _ => ?_ | fail)
 rename_i b3
 refine aBu (ps := [_, _]) ?_
 repeat (first | refine gx ?_ | refine gN fun _ => ?_ | refine gB fun _ => ?_ | fail)
 refine aC (o := hW2) (h := ?_) (hro := RoIn.all (fun q hq => List.mem_append_left _ hq))
 rintro _ _ ⟨a1, c1, H1, rfl, rfl, ho1⟩
 refine aG ?_
 repeat (first | refine gx ?_ | refine gN fun _ => ?_ | refine gB fun _ => ?_ | fail)
 refine aC (o := hC) (h := ?_) (hro := RoIn.all (fun q hq => List.mem_append_left _ hq))
 rintro _ _ ⟨a2, c2, H2, rfl, rfl, ho2⟩
 refine aG ?_
 refine aBu (ps := [_, _]) ?_
 repeat (first | refine gx ?_ | refine gN fun _ => ?_ | refine gB fun _ => ?_ | fail)
 rename_i bp
 refine aC (o := hN) (h := ?_)
 rintro _ _ ⟨bd, Hd, rfl, rfl, hD⟩
 refine aG ?_
 repeat (first | refine gx ?_ | refine gN fun _ => ?_ | refine gB fun _ => ?_ | fail)
 refine aC (o := hSH bd Hd hD a1 c1 H1 (Own.roSl ho1)) (h := ?_) (hro := RoIn.own 2 rfl)
 rintro _ _ ⟨Hd, rfl, hD⟩
 refine aG ?_
 repeat (first | refine gx ?_ | refine gN fun _ => ?_ | refine gB fun _ => ?_ | fail)
 refine aC (o := hSN) (h := ?_)
 rintro _ _ ⟨bs, rfl, rfl⟩
 refine aG ?_
 repeat (first | refine gx ?_ | refine gN fun _ => ?_ | refine gB fun _ => ?_ | fail)
 refine W.order [2, 1, 0, 0, 1] rfl ?_
 refine W.nilChunk ?_
 refine aLp (fun k ρ1 L1 => ∃ (j : Nat) (qs : List Int) (aq : Option Addr) (cq : Nat) (Hq : HL), j ≤ c.ps.length ∧ k = c.ps.length - j ∧ qs = (c.ps.take j).map Cp.q ∧ Own 1 3 (ints qs) aq qs.length cq Hq ∧ ρ1 = [(58, .int .i64 (j : Int)), (57, .int .i64 (c.ps.length : Int)), (56, .slice a c.ps.length cap), (11, .slice aq qs.length cq), (10, .pointer (some ⟨bp, 0, none⟩)), (3, .pointer (some ⟨b3, 0, none⟩)), (1, .slice af fs.length cf), (2, .slice ak ks.length ck)] ∧ L1 = [Hq, [(bp, .cells #[.int .i64 c.fr, .int .i64 c.dp, .int .i64 c.se, .slice a2 c.ps.length c2, .pointer (some ⟨bd, 0, none⟩), .pointer none, .pointer (some ⟨bs, 0, none⟩), .slice none 0 0, .int .i64 0, .int .i64 1, .int .i64 0] 162 (0, 0))], Hd, [(bs, .cells #[.int .i64 (c.ps.length : Int)] 238 (0, 0))], H2, [(b3, .cells #[.int .i64 c.fr, .int .i64 c.dp, .int .i64 c.se, .slice a c.ps.length cap] 24 (0, 0))]]) (o := ⟨0, [], none, 0, [], Nat.zero_le _, rfl, rfl, Own.nil 1 _, rfl, rfl⟩) (h := ?_)
 rintro k ρ1 L1 ⟨j, qs, aq, cq, Hq, hj, rfl, hqs, hoq, rfl, rfl⟩
 refine aG ?_
 rcases Classical.em ((j : Int) < (c.ps.length : Int)) with hz | hz
 ·
  have hlt : j < c.ps.length := by omega
  obtain ⟨bx, ox, lx, ex, frx, rfl, rfl, hld⟩ := cps_at hro hlt
  have hnx : (c.ps.take (j + 1)).map Cp.q = qs ++ [(c.ps[j]).q] := by rw [List.take_succ_eq_append_getElem hlt, List.map_append, hqs]; rfl
  have hql : qs.length ≤ 16 := by rw [hqs, List.length_map, List.length_take]; omega
  generalize c.ps[j] = x at *
  repeat (first | refine gh hz ?_ | refine gN fun _ => ?_ | refine gB fun _ => ?_ | fail)
  refine aV (OpVal.ixSl tab_ok rfl rfl rfl rfl rfl hlt) ?_
  refine aV (OpVal.load tab_ok rfl rh hld) ?_
  repeat (first | refine gx ?_ | refine gN fun _ => ?_ | refine gB fun _ => ?_ | fail)
  refine aSl (ps := [_]) ?_
  intro bt
  refine aG ?_
  refine aAp (hoq) ?_
  rintro _ _ ⟨_, _, _, rfl, rfl, ho⟩
  refine aG ?_
  obtain ⟨q2, hq2⟩ : ∃ q2, q2 = qs ++ [x.q] := ⟨_, rfl⟩
  have e2 : ints qs ++ [.int .i64 x.q] = ints q2 := by rw [hq2]; simp [ints]
  have e3 : qs.length + 1 = q2.length := by rw [hq2, List.length_append]; rfl
  rw [e2, e3] at ho
  rw [e3]
  repeat (first | refine gh hz ?_ | refine gN fun _ => ?_ | refine gB fun _ => ?_ | fail)
  refine W.order [0, 2, 2, 2, 2, 2] rfl ?_
  refine aR (o := ⟨c.ps.length - (j + 1), by omega, j + 1, q2, _, _, _, by omega, rfl, by rw [hnx, hq2], ho, rfl, rfl⟩)
 obtain rfl : j = c.ps.length := by omega
 rw [List.take_length] at hqs
 subst hqs
 have hlm : (c.ps.map Cp.q).length = c.ps.length := List.length_map _
 rw [hlm] at hoq
 rw [hlm]
 repeat (first | refine gh hz ?_ | refine gN fun _ => ?_ | refine gB fun _ => ?_ | fail)
 refine aC (o := hCut aq cq Hq (Own.roSl hoq)) (h := ?_) (hro := RoIn.own 0 rfl)
 rintro _ _ ⟨ba, Ha, rfl, rfl, hA⟩
 refine aG ?_
 obtain ⟨bps, bl, la, ca, Hp, rfl, ha1, ha2, ha3⟩ := hA
 have hml : (made (c.ps.map Cp.q)).length = c.ps.length := by simp [made]
 rw [hml] at ha1 ha2
 have hbpl : bps.length = c.ps.length := by rw [ha3.len, hml]
 have hPart := fun (j : Nat) (hj : j < c.ps.length) => (Part_spec (made (c.ps.map Cp.q)) ba _ bps bl ca la Hp rfl (by rw [hml]; exact ha1) (by rw [hml]; exact ha2) ha3 (j : Int)).post (post' := fun v L' => v = .pointer (some ⟨bps.getD j 0, 0, none⟩) ∧ L' = []) (fun v L' h => ⟨by
  rw [h.1, if_pos (by rw [hml]; omega), Int.toNat_natCast, List.getD_eq_getElem?_getD, List.getElem?_eq_getElem (show j < bps.length by omega)]; rfl, h.2⟩)
 rw [hml] at hPart
 refine splA (by rw [hml]) ?_
 repeat (first | refine gx ?_ | refine gN fun _ => ?_ | refine gB fun _ => ?_ | fail)
 refine W.order [4, 0, 0, 0, 1, 1, 1, 1] rfl ?_
 refine W.nilChunk ?_
 refine W.nilChunk ?_
 refine W.nilChunk ?_
 refine W.nilChunk ?_
 have hOf := fun (j : Nat) => PlOf_spec fs af cf rf hf j
 have hOk := fun (j : Nat) => PlOf_spec ks ak ck rk hk j
 have hTN := fun (j : Nat) (hj : j < c.ps.length) bp => TNew_spec (c.ps[j]).q.toNat c.dp.toNat (by have := hok.dp; omega) (by have := hok.dp; omega) (c.ps[j]).p (hok.ps _ (List.getElem_mem hj)).2.1.1 (hok.ps _ (List.getElem_mem hj)).2.1.2 bp
 have hdp : ((c.dp.toNat : Nat) : Int) = c.dp := by have := hok.dp; omega
 rw [hdp] at hTN
 clear hCut hSN hSH hN hC hW2 hW
 refine aLp (fun k ρ1 L1 => ∃ (j : Nat) (bts bfs bks : List Nat) (al : Option Addr) (cl : Nat) (Ho Ht Hf Hk : HL), j ≤ c.ps.length ∧ k = c.ps.length - j ∧ Own 3 178 (Owns bts bfs bks) al j cl Ho ∧ Piles (fun (e : Tn × Nat) b H => TAt c.dp.toNat e.1 b e.2 H) (pairL c bps j) bts Ht ∧ Piles StAt (bitL (fs.map Bl.xs) j) bfs Hf ∧ Piles StAt (bitL (ks.map Bl.xs) j) bks Hk ∧ ρ1 = [(79, .int .i64 (j : Int)), (78, .int .i64 (c.ps.length : Int)), (77, .slice a c.ps.length cap), (10, .pointer (some ⟨bp, 0, none⟩)), (3, .pointer (some ⟨b3, 0, none⟩)), (1, .slice af fs.length cf), (2, .slice ak ks.length ck)] ∧ L1 = [Ho, Ht, Hf, Hk, [(bp, .cells #[.int .i64 c.fr, .int .i64 c.dp, .int .i64 c.se, .slice a2 c.ps.length c2, .pointer (some ⟨bd, 0, none⟩), .pointer (some ⟨ba, 0, none⟩), .pointer (some ⟨bs, 0, none⟩), .slice al j cl, .int .i64 0, .int .i64 1, .int .i64 0] 162 (0, 0))], [(ba, .cells #[.slice (some ⟨bl, 0, none⟩) c.ps.length ca] 241 (0, 0))], [(bl, .cells la.toArray 173 (0, 0))], Hp, Hd, [(bs, .cells #[.int .i64 (c.ps.length : Int)] 238 (0, 0))], H2, [(b3, .cells #[.int .i64 c.fr, .int .i64 c.dp, .int .i64 c.se, .slice a c.ps.length cap] 24 (0, 0))]]) (o := ⟨0, [], [], [], none, 0, [], [], [], [], Nat.zero_le _, rfl, Own.nil 3 _, ⟨rfl, rfl⟩, ⟨rfl, rfl⟩, ⟨rfl, rfl⟩, rfl, rfl⟩) (h := ?_)
 rintro k ρ1 L1 ⟨j, bts, bfs, bks, al, cl, Ho, Ht, Hf, Hk, hj, rfl, how, hts, hfs, hks, rfl, rfl⟩
 refine aG ?_
 rcases Classical.em ((j : Int) < (c.ps.length : Int)) with hz | hz
 ·
  have hlt : j < c.ps.length := by omega
  obtain ⟨bx, ox, lx, ex, frx, rfl, rfl, hld⟩ := cps_at hro hlt
  have hPj := hPart j hlt
  have hTj := hTN j hlt (bps.getD j 0)
  have hpr : pairL c bps (j + 1) = pairL c bps j ++ [(Tn.new (c.ps[j]).q.toNat (c.ps[j]).p, bps.getD j 0)] := by
   unfold pairL
   rw [List.range_succ, List.map_append]
   simp [List.getD_eq_getElem?_getD, hlt]
  generalize c.ps[j] = x at *
  repeat (first | refine gh hz ?_ | refine gN fun _ => ?_ | refine gB fun _ => ?_ | fail)
  refine aV (OpVal.ixSl tab_ok rfl rfl rfl rfl rfl hlt) ?_
  refine aV (OpVal.load tab_ok rfl rh hld) ?_
  repeat (first | refine gx ?_ | refine gN fun _ => ?_ | refine gB fun _ => ?_ | fail)
  refine W.drawH tab_ok 16 [.b false, .b false, .b false, .b false, .b false, .b false, .b false, .b false, .b false, .b false, .b true, .b false, .b false, .b false, .b false, .b false] [] follows (by decide +kernel) (by decide +kernel) rfl (by decide) rfl ?_
  intro _
  refine dG ?_
  refine gdx ?_
  refine dQ (o := hPj) (h := ?_) (hro := (fun q hq => (List.mem_cons.1 hq).elim (fun h => by subst h; simp) (fun hq => (List.mem_cons.1 hq).elim (fun h => by subst h; simp) (fun h => by simp [h]))))
  refine gdx ?_
  refine dC (o := hTj) (h := ?_)
  rintro _ _ ⟨bt, Hn, rfl, rfl, htn⟩
  refine dG ?_
  refine gdx ?_
  refine WD.nil (W.dropNil (aG ?_))
  repeat (first | refine gx ?_ | refine gN fun _ => ?_ | refine gB fun _ => ?_ | fail)
  refine W.drawH tab_ok 15 [.b false, .b false, .b false, .b false, .b false, .b false, .b false, .b false, .b true, .b false, .b false, .b true, .b false, .b true, .b true] [2] follows (by decide +kernel) (by decide +kernel) rfl (by decide) rfl ?_
  intro _
  refine dG ?_
  refine gdx ?_
  refine dC (o := hOf j) (h := ?_) (hro := RoIn.all (fun q hq => List.mem_append_right _ (List.mem_append_right _ (List.mem_append_left _ hq))))
  rintro _ _ ⟨bf, Hfn, rfl, rfl, hfn⟩
  refine dG ?_
  refine gdx ?_
  refine dC (o := hOk j) (h := ?_) (hro := RoIn.all (fun q hq => List.mem_append_right _ (List.mem_append_right _ (List.mem_append_right _ hq))))
  rintro _ _ ⟨bk, Hkn, rfl, rfl, hkn⟩
  refine dG ?_
  refine gdx ?_
  refine dV (OpVal.build (ps := [_, _, _]) tab_ok rfl rfl rfl rfl (by repeat (first | exact trivial | refine ⟨⟨_, _, _, rfl, rfl, rfl⟩, ?_⟩)) rfl) ?_
  refine dSl (ps := [_]) ?_
  intro bt9
  refine dG ?_
  refine dAp (how) ?_
  rintro _ _ ⟨_, _, _, rfl, rfl, ho⟩
  refine dG ?_
  refine gdx ?_
  refine WD.nil (W.dropNil (aG ?_))
  repeat (first | refine gx ?_ | refine gN fun _ => ?_ | refine gB fun _ => ?_ | fail)
  have hbl1 : bts.length = j := by rw [hts.len]; simp [pairL]
  have hbl2 : bfs.length = j := by rw [hfs.len]; simp [bitL]
  have hbl3 : bks.length = j := by rw [hks.len]; simp [bitL]
  have hts2 := hts.snoc (e := (Tn.new x.q.toNat x.p, bps.getD j 0)) htn
  have hfs2 := hfs.snoc hfn
  have hks2 := hks.snoc hkn
  rw [← hpr] at hts2
  have e1 : ∀ l : List (List Bool), bitL l j ++ [l.getD j []] = bitL l (j + 1) := fun l => by unfold bitL; rw [List.range_succ, List.map_append]; rfl
  rw [e1] at hfs2 hks2
  have e3 : Owns bts bfs bks ++ [.pointer (some ⟨bt, 0, none⟩), .pointer (some ⟨bf, 0, none⟩), .pointer (some ⟨bk, 0, none⟩)] = Owns (bts ++ [bt]) (bfs ++ [bf]) (bks ++ [bk]) := (owns_snoc hbl1 hbl2 hbl3 bt bf bk).symm
  rw [e3] at ho
  refine W.groupV [6, 4] rfl ?_
  refine W.groupV [6, 4] rfl ?_
  refine W.groupV [6, 4] rfl ?_
  refine W.order [3, 2, 1, 0, 2, 2, 2, 2, 2, 2, 2, 2] rfl ?_
  refine aR (o := ⟨c.ps.length - (j + 1), by omega, j + 1, _, _, _, _, _, _, _, _, _, by omega, rfl, ho, hts2, hfs2, hks2, rfl, rfl⟩)
 ·
  obtain rfl : j = c.ps.length := by omega
  repeat (first | refine gh hz ?_ | refine gN fun _ => ?_ | refine gB fun _ => ?_ | fail)
  refine W.groupV [4, 0, 0, 4, 0, 0, 2, 2, 0, 0, 0] rfl ?_
  refine W.ret (fin _ _ (FinOk.first 1 (.tmp rfl (.tmp rfl .nil)) rfl ?_))
  have hnl := new_len c (fs.map Bl.xs) (ks.map Bl.xs)
  refine .inr ⟨hok, bp, _, rfl, rfl, dev0 c, a2, c2, bd, ba, bs, al, cl, bl, la, ca, bts, bps, bfs, bks, Ho, Ht, Hp, Hf, Hk, Hd, arCells c.ps.length bs ba bl ca la ++ H2, ?_, ⟨?_, ?_, ?_, ?_, ?_⟩, hD, dev0_cut hok _ _, ⟨⟨H2, by rw [hnl], Own.roSl ho2, ?_⟩, ⟨by rw [hnl]; exact ha1, by rw [hnl]; exact ha2⟩, by rw [hnl]; exact hl.2⟩⟩
  ·
   unfold plCells
   rw [hnl]
   simp [arCells, Pl.new]
  · rw [hnl]; exact Own.roSl how
  · rw [pairL_all c _ _ bps hbpl]; exact hts
  · rw [parts_all]; exact PtsAt.piles.1 ha3
  · rw [bitF_all]; exact hfs
  · rw [bitK_all]; exact hks
  ·
   show c.ps.length ≤ c2
   rcases ho2.2 with ⟨_, h1, h2, _⟩ | ⟨_, _, _, _, h1, _⟩ <;> omega
end Go.Proofs.YtfpghdcjdnifcaaGreat
namespace Go.Proofs.YtfpghdcjdnifcaaGreat
open Go Go.Sl Go.IntWalk
set_option maxHeartbeats 8000000
set_option maxRecDepth 20000
set_option linter.unusedVariables false
end Go.Proofs.YtfpghdcjdnifcaaGreat
namespace Go.Proofs.YtfpghdcjdnifcaaGreat
open Go Go.Sl Go.IntWalk
set_option maxHeartbeats 8000000
set_option maxRecDepth 20000
set_option linter.unusedVariables false
structure Gt where
 p : Pl
 tabs : List Tb
def Gt.why (g : Gt) (i : Int) : Int := if ¬ g.p.in_ i then 1 else if g.p.down ≠ 0 then 12 else 0
def noTb : Tb := ⟨0, 0, []⟩
def Gt.tab (g : Gt) (i : Int) : Tb := g.tabs.getD i.toNat noTb
def Gt.setTab (g : Gt) (i : Int) (t : Tb) : Gt := ⟨g.p, g.tabs.set i.toNat t⟩
def Gt.root (g : Gt) (i : Int) : (Int × Int) × Int := if g.why i ≠ 0 then ((0, 0), g.why i) else ((g.tab i).root, 0)
def Gt.mint (g : Gt) (i : Int) (c : Int × Int) (s : Int) : Gt × (Int × Int) × Int :=
 if g.why i ≠ 0 then (g, (0, 0), g.why i) else (g.setTab i ((g.tab i).mint c s).1, ((g.tab i).mint c s).2)
def Gt.let_ (g : Gt) (i : Int) (b : List Int) : Int :=
 if (rdReq b).2.2 ≠ 0 ∨ needs (rdReq b).2.1.op = 0 then 2 else (g.tab i).check (rdReq b).1 (needs (rdReq b).2.1.op)
def Gt.accept (g : Gt) (i : Int) (b : List Int) : Gt × Int × Int :=
 if g.why i ≠ 0 then (g, 0, g.why i) else if g.let_ i b ≠ 0 then (g, 0, g.let_ i b) else
 (⟨(g.p.submit i (rdReq b).2.1).1, g.tabs⟩, (g.p.submit i (rdReq b).2.1).2)
structure Gt.Inv (g : Gt) : Prop where
 p : g.p.Inv
 len : g.tabs.length = g.p.l.length
 tb : ∀ t ∈ g.tabs, t.Inv ∧ t.e = g.p.epoch
def Gt.new (c : Cf) (fs ks : List (List Bool)) : Gt := ⟨Pl.new c fs ks, List.replicate c.ps.length (Tb.new 1)⟩
theorem new_ginv {c : Cf} (h : c.Ok) (hin : c.In) (fs ks : List (List Bool)) : (Gt.new c fs ks).Inv :=
 ⟨new_pinv h hin fs ks, by show (List.replicate _ _).length = _; rw [List.length_replicate]; exact (new_len c fs ks).symm, fun t ht => by
  rw [List.eq_of_mem_replicate ht]; exact ⟨Tb.new_inv (by decide), rfl⟩⟩
theorem needs_le (op : Int) : 0 ≤ needs op ∧ needs op < 16 := by
 unfold needs
 split
 · decide
 ·
  split
  · decide
  · split <;> decide
def inCells (bp : Nat) (ep : Int) (al : Option Addr) (n cl : Nat) : List Value := [.pointer (some ⟨bp, 0, none⟩), .int .i64 ep, .slice al n cl]
structure TbsAt (g : Gt) (bp : Nat) (al : Option Addr) (bts : List Nat) (Hp Hl Ht : HL) : Prop where
 pl : PlAt g.p bp Hp
 sl : RoSl 1 (ptrs bts) al g.p.l.length Hl
 tb : Piles TbAt g.tabs bts Ht
def InAt (g : Gt) (bx : Nat) (H : HL) : Prop := ∃ (bp : Nat) (al : Option Addr) (cl : Nat) (bts : List Nat) (Hp Hl Ht : HL), H = [(bx, Obj.cells (List.toArray (inCells bp g.p.epoch al g.p.l.length cl)) 136 (0, 0))] ++ (Hp ++ (Hl ++ Ht)) ∧ TbsAt g bp al bts Hp Hl Ht
def InOld (g : Gt) (bx : Nat) (H : HL) : Prop := ∃ (bp : Nat) (ep : Int) (al : Option Addr) (n cl : Nat) (Hp : HL), H = [(bx, Obj.cells (List.toArray (inCells bp ep al n cl)) 136 (0, 0))] ++ Hp ∧ PlAt g.p bp Hp ∧ ep ≠ g.p.epoch ∧ g.tabs = List.replicate g.p.l.length (Tb.new g.p.epoch)
def InAny (g : Gt) (bx : Nat) (H : HL) : Prop := InAt g bx H ∨ InOld g bx H
def GtAt (g : Gt) (b : Nat) (H : HL) : Prop := ∃ (bx : Nat) (Hx : HL), H = [(b, Obj.cells (List.toArray [.pointer (some ⟨bx, 0, none⟩)]) 138 (0, 0))] ++ Hx ∧ InAny g bx Hx
theorem InAny.pool {g : Gt} {bx : Nat} {H : HL} (h : InAny g bx H) : ∃ (bp : Nat) (ep : Int) (al : Option Addr) (n cl : Nat) (Hp Z : HL), H = [(bx, Obj.cells (List.toArray (inCells bp ep al n cl)) 136 (0, 0))] ++ (Hp ++ Z) ∧ PlAt g.p bp Hp := by
 rcases h with ⟨bp, al, cl, bts, Hp, Hl, Ht, rfl, h⟩ | ⟨bp, ep, al, n, cl, Hp, rfl, h, -⟩
 · exact ⟨bp, _, al, _, cl, Hp, Hl ++ Ht, rfl, h.pl⟩
 · exact ⟨bp, ep, al, n, cl, Hp, [], by simp, h⟩
theorem ptrs_at {bts : List Nat} {n : Nat} {al : Option Addr} {Hl : HL} (h : RoSl 1 (ptrs bts) al n Hl) (hn : bts.length = n) {i b : Nat} (hb : bts[i]? = some b) :
  ∃ bx ox lx ex frx, al = some ⟨bx, ox, none⟩ ∧ Hl = [(bx, .cells (List.toArray lx) ex frx)] ∧ lx[ox + i * 1]? = some (.pointer (some ⟨b, 0, none⟩)) := by
 have hi : i < bts.length := (List.getElem?_eq_some_iff.1 hb).1
 have e : ptrs bts = bts.flatMap fun b => [Value.pointer (some ⟨b, 0, none⟩)] := by unfold ptrs; rw [List.map_eq_flatMap]
 rw [e, ← hn] at h
 obtain ⟨bx, ox, lx, ex, frx, h1, h2, -, h3⟩ := RoSl.at (f := fun b : Nat => [Value.pointer (some ⟨b, 0, none⟩)]) (m := 1) (fun _ => rfl) h hi
 refine ⟨bx, ox, lx, ex, frx, h1, h2, ?_⟩
 have := h3 0 (by decide)
 rw [List.getElem?_eq_getElem hi] at hb
 cases hb
 simpa using this
theorem spl4g {P : Program} {n : Nat} {R : HL} {cx : Cx} {K : List Kont} {ρ : Env} {L M : List HL} {A B C D : HL} (h : L = (A ++ (B ++ (C ++ D))) :: M) (hk : W P n R cx K ρ (A :: B :: C :: D :: M)) : W P n R cx K ρ L := by
 subst h
 exact W.regroup (by simp) hk
theorem Renew_spec (g : Gt) (hi : g.Inv) (bx : Nat) (H : HL) (h : InAny g bx H) : Ctr Tryz.prog 127 [.pointer (some ⟨bx, 0, none⟩)] [H] [] (fun _ L' => ∃ H', L' = [H'] ∧ InAt g bx H') := by
 rcases h with h | h
 ·
  have hia := h
  obtain ⟨bp, al, cl, bts, Hp, Hl, Ht, rfl, h⟩ := h
  have hE := PEpoch_spec g.p bp Hp h.pl
  refine Ctr.enter (n := 51) [] [(0, _)] Tryz.func127 rfl rfl rfl (lb rfl) Tryz.call127 ⟨rfl, trivial⟩ ?_
  intro cx fin fin0
  refine aG ?_
  refine spl4g rfl ?_
  refine aG ?_
  refine W.draw follows (by decide +kernel) (zG ?_)
  refine gzx ?_
  refine zC (o := hE) (h := ?_) (hro := RoIn.own 1 rfl)
  refine gzx ?_
  refine WZ.nil (aG ?_)
  repeat (first | refine gx ?_ | refine gN fun _ => ?_ | refine gB fun _ => ?_ | fail)
  refine W.groupV [0, 0, 0, 0] rfl ?_
  refine W.ret (fin _ _ (FinOk.first 1 .nil rfl ?_))
  exact ⟨_, rfl, hia⟩
 ·
  obtain ⟨bp, ep, al, n, cl, Hp, rfl, hp, hne, htb⟩ := h
  have hE := PEpoch_spec g.p bp Hp hp
  have hL := PLenP_spec g.p bp Hp hp
  have hN := TNewC_spec g.p.epoch hi.p.ep
  have hl16 : g.p.l.length ≤ 16 := by rw [hi.p.len]; exact hi.p.ok.len.2
  refine Ctr.enter (n := 51) [] [(0, _)] Tryz.func127 rfl rfl rfl (lb rfl) Tryz.call127 ⟨rfl, trivial⟩ ?_
  intro cx fin fin0
  refine aG ?_
  refine spl2 rfl ?_
  refine aG ?_
  refine W.draw follows (by decide +kernel) (zG ?_)
  refine gzx ?_
  refine zC (o := hE) (h := ?_) (hro := RoIn.own 1 rfl)
  refine gzx ?_
  refine WZ.nil (aG ?_)
  repeat (first | refine gh hne ?_ | refine gN fun _ => ?_ | refine gB fun _ => ?_ | fail)
  refine aC (o := hE) (h := ?_) (hro := RoIn.own 1 rfl)
  rintro _ _ ⟨rfl, rfl⟩
  refine aG ?_
  repeat (first | refine gx ?_ | refine gN fun _ => ?_ | refine gB fun _ => ?_ | fail)
  refine aC (o := hL) (h := ?_) (hro := RoIn.own 1 rfl)
  rintro _ _ ⟨rfl, rfl⟩
  refine aG ?_
  refine W.nilChunk ?_
  refine W.nilChunk ?_
  refine aLp (fun k ρ1 L1 => ∃ (j : Nat) (bts : List Nat) (al : Option Addr) (cl : Nat) (Hl Ht : HL), j ≤ g.p.l.length ∧ k = g.p.l.length - j ∧ Own 1 141 (ptrs bts) al j cl Hl ∧ Piles TbAt (List.replicate j (Tb.new g.p.epoch)) bts Ht ∧ ρ1 = [(30, .int .i64 (j : Int)), (29, .int .i64 (g.p.l.length : Int)), (0, .pointer (some ⟨bx, 0, none⟩))] ∧ L1 = [Hl, Ht, [(bx, .cells #[.pointer (some ⟨bp, 0, none⟩), .int .i64 g.p.epoch, .slice al j cl] 136 (0, 0))], Hp]) (o := ⟨0, [], none, 0, [], [], Nat.zero_le _, rfl, Own.nil 1 _, ⟨rfl, rfl⟩, rfl, rfl⟩) (h := ?_)
  rintro k ρ1 L1 ⟨j, bts, al, cl, Hl, Ht, hj, rfl, how, htt, rfl, rfl⟩
  refine aG ?_
  rcases Classical.em ((j : Int) < (g.p.l.length : Int)) with hz | hz
  ·
   repeat (first | refine gh hz ?_ | refine gN fun _ => ?_ | refine gB fun _ => ?_ | fail)
   refine aC (o := hN) (h := ?_)
   rintro _ _ ⟨bt, Hn, rfl, rfl, htn⟩
   refine aG ?_
   repeat (first | refine gx ?_ | refine gN fun _ => ?_ | refine gB fun _ => ?_ | fail)
   refine aSl (ps := [_]) ?_
   intro b9
   refine aG ?_
   refine aAp (how) ?_
   rintro _ _ ⟨_, _, _, rfl, rfl, ho⟩
   refine aG ?_
   have e2 : ptrs bts ++ [.pointer (some ⟨bt, 0, none⟩)] = ptrs (bts ++ [bt]) := by simp [ptrs]
   rw [e2] at ho
   have h2 := htt.snoc htn
   rw [← List.replicate_succ'] at h2
   repeat (first | refine gh hz ?_ | refine gN fun _ => ?_ | refine gB fun _ => ?_ | fail)
   refine W.groupV [3, 2] rfl ?_
   refine W.order [1, 0, 1, 1] rfl ?_
   refine aR (o := ⟨g.p.l.length - (j + 1), by omega, j + 1, _, _, _, _, _, by omega, rfl, ho, h2, rfl, rfl⟩)
  ·
   obtain rfl : j = g.p.l.length := by omega
   repeat (first | refine gh hz ?_ | refine gN fun _ => ?_ | refine gB fun _ => ?_ | fail)
   refine W.groupV [2, 2, 0, 0] rfl ?_
   refine fin0 _ _ (FinOk.first 1 .nil rfl ?_)
   exact ⟨_, rfl, bp, al, cl, bts, Hp, Hl, Ht, rfl, hp, Own.roSl how, by rw [htb]; exact htt⟩
end Go.Proofs.YtfpghdcjdnifcaaGreat
namespace Go.Proofs.YtfpghdcjdnifcaaGreat
open Go Go.Sl Go.IntWalk
set_option maxHeartbeats 8000000
set_option maxRecDepth 20000
set_option linter.unusedVariables false
def Rs.d (r : Rs) : List Value := [.int .i64 r.id, .int .i64 r.errno, .bool r.hit, .int .i64 r.tick, .string (bstr r.data), .int .u64 r.c.h, .int .u64 r.c.m, .int .u64 r.c.e, .int .u64 r.c.r, .int .u64 r.c.w, .int .u64 r.c.f]
def DocT (d : Nat) (t : Tn) (l : List Value) (D : HL) : Prop := ∃ a c r at_ ct rt ag cg rg aq cq rq jl ao co ro,
 l = [.slice a t.p.fs.length c, .int .i64 t.p.hand, .int .i64 t.m.op, .int .i64 t.m.page, .slice at_ t.m.todo.length ct, .int .i64 t.m.to, .slice ag t.m.got.length cg, .int .i64 (d : Int), .int .i64 t.pages, .slice aq (List.length jl) cq, .int .i64 t.ids,
  .int .u64 t.c.h, .int .u64 t.c.m, .int .u64 t.c.e, .int .u64 t.c.r, .int .u64 t.c.w, .int .u64 t.c.f, .slice ao t.out.length co] ∧
 RoSl 6 (dflat t.p.fs) a t.p.fs.length r ∧ RoSl 3 (ios t.m.todo) at_ t.m.todo.length rt ∧ RoSl 1 (u8s t.m.got) ag t.m.got.length rg ∧ t.m.todo.length ≤ ct ∧ (∀ q ∈ r, q ∈ D) ∧ (∀ q ∈ rt, q ∈ D) ∧ (∀ q ∈ rg, q ∈ D) ∧
 jl.map Jb.j = t.js ∧ RoSl 6 (jl.flatMap Jb.l) aq jl.length rq ∧ jl.length ≤ cq ∧ (∀ q ∈ rq, q ∈ D) ∧ (∀ j ∈ jl, ∃ r, RoSl 1 (u8s j.xs) j.a j.xs.length r ∧ ∀ q ∈ r, q ∈ D) ∧
 RoSl 11 (t.out.flatMap Rs.d) ao t.out.length ro ∧ (∀ q ∈ ro, q ∈ D)
theorem TRNew_spec (n d : Nat) (h64 : n ≤ 64) (pages : Int) : Ctr Tryz.prog 154 [.int .i64 (n : Int), .int .i64 (d : Int), .int .i64 pages] [] [] (fun v L' => ∃ l D, v = .agg (List.toArray l) ∧ L' = [D] ∧ DocT d (Tn.new n pages) l D) := by
 have hR := RNew_spec n h64
 refine Ctr.enter (n := 13) [.cell 6 120] [(0, _), (1, _), (2, _)] Tryz.func154 rfl rfl rfl (lb rfl) Tryz.call154 ⟨rfl, rfl, rfl, trivial⟩ ?_
 intro cx fin fin0
 refine aG ?_
 repeat (first | refine gx ?_ | refine gN fun _ => ?_ | refine gB fun _ => ?_ | fail)
 refine aC (o := hR) (h := ?_)
 rintro _ _ ⟨D, rfl, a, c, r, rfl, hro, hsub⟩
 refine aG ?_
 refine aBu (ps := [_]) ?_
 repeat refine gx ?_
 refine aBu (ps := [_, _, _]) ?_
 repeat refine gx ?_
 refine W.ret (fin _ _ (FinOk.first 1 (aRc .nil) rfl ?_))
 exact ⟨_, D, rfl, rfl, a, c, r, none, 0, [], none, 0, [], none, 0, [], [], none, 0, [], rfl, hro, ⟨rfl, .inl ⟨rfl, rfl⟩⟩, ⟨rfl, .inl ⟨rfl, rfl⟩⟩, Nat.le_refl _, hsub, (fun _ h => by cases h), (fun _ h => by cases h), rfl, ⟨rfl, .inl ⟨rfl, rfl⟩⟩, Nat.le_refl _, (fun _ h => by cases h), (fun _ h => by cases h), ⟨rfl, .inl ⟨rfl, rfl⟩⟩, (fun _ h => by cases h)⟩
def eq1 : Rq := ⟨1, 0, 0, 0, []⟩
def eq8 : Rq := ⟨8, 0, 0, 0, []⟩
def z16' : List Int := List.replicate 16 0
def y1 : Tn × Int × Int := (Tn.new 1 2).submit 1 eq1 0
def y2 : Tn × Int × Int := y1.1.submit 1 eq8 0
def y3 : Tn := y2.1.over 0 z16' 1
def y4 : Tn := y3.over 0 z16' 2
def y5 : Tn × Int × Int := y4.submit 1 eq8 3
theorem y1_is : (y1.2, y1.1.m.todo.length, y1.1.ids) = ((1, 0), 2, 1) := by kernel_rfl
theorem y2_is : (y2.2, y2.1.m.todo.length, y2.1.ids) = ((0, 8), 2, 1) := by kernel_rfl
theorem y3_is : (y3.m.todo.length, y3.ids) = (1, 1) := by kernel_rfl
theorem y4_is : (y4.m.todo.length, y4.ids) = (0, 1) := by kernel_rfl
theorem y5_is : (y5.2, y5.1.out.map fun r => (r.id, r.tick, r.c.m)) = ((2, 0), [(1, 2, 0), (2, 3, 1)]) := by kernel_rfl
theorem ys : ∃ (y1 y2 y5 : Tn × Int × Int) (y3 y4 : Tn), (Tn.new 1 2).submit 1 eq1 0 = y1 ∧ y1.1.submit 1 eq8 0 = y2 ∧ y2.1.over 0 z16' 1 = y3 ∧ y3.over 0 z16' 2 = y4 ∧ y4.submit 1 eq8 3 = y5 ∧
  (y1.2, y1.1.m.todo.length, y1.1.ids) = ((1, 0), 2, 1) ∧ (y2.2, y2.1.m.todo.length, y2.1.ids) = ((0, 8), 2, 1) ∧ (y3.m.todo.length, y3.ids) = (1, 1) ∧ (y4.m.todo.length, y4.ids) = (0, 1) ∧
  (y5.2, y5.1.out.map fun r => (r.id, r.tick, r.c.m)) = ((2, 0), [(1, 2, 0), (2, 3, 1)]) := ⟨y1, y2, y5, y3, y4, rfl, rfl, rfl, rfl, rfl, y1_is, y2_is, y3_is, y4_is, y5_is⟩
end Go.Proofs.YtfpghdcjdnifcaaGreat
namespace Go.Proofs.YtfpghdcjdnifcaaGreat
open Go Go.Sl Go.IntWalk
set_option maxHeartbeats 8000000
set_option maxRecDepth 20000
set_option linter.unusedVariables false
end Go.Proofs.YtfpghdcjdnifcaaGreat
namespace Go.Proofs.YtfpghdcjdnifcaaGreat
open Go Go.Sl Go.IntWalk
set_option maxHeartbeats 8000000
set_option maxRecDepth 20000
set_option linter.unusedVariables false
theorem DocT.mono {d : Nat} {t : Tn} {l : List Value} {D D' : HL} (h : DocT d t l D) (hs : ∀ q ∈ D, q ∈ D') : DocT d t l D' := by
 obtain ⟨a, c, r, at_, ct, rt, ag, cg, rg, aq, cq, rq, jl, ao, co, ro, h0, h1, h2, h3, h4, h5, h6, h7, h8, h9, h10, h11, h12, h13, h14⟩ := h
 exact ⟨a, c, r, at_, ct, rt, ag, cg, rg, aq, cq, rq, jl, ao, co, ro, h0, h1, h2, h3, h4, fun q hq => hs q (h5 q hq), fun q hq => hs q (h6 q hq), fun q hq => hs q (h7 q hq), h8, h9, h10, fun q hq => hs q (h11 q hq), fun j hj => (h12 j hj).imp fun r h => ⟨h.1, fun q hq => hs q (h.2 q hq)⟩, h13, fun q hq => hs q (h14 q hq)⟩
def zT : List Value := [.slice none 0 0, .int .i64 0, .int .i64 0, .int .i64 0, .slice none 0 0, .int .i64 0, .slice none 0 0, .int .i64 0, .int .i64 0, .slice none 0 0, .int .i64 0, .int .u64 0, .int .u64 0, .int .u64 0, .int .u64 0, .int .u64 0, .int .u64 0, .slice none 0 0]
end Go.Proofs.YtfpghdcjdnifcaaGreat
namespace Go.Proofs.YtfpghdcjdnifcaaGreat
open Go Go.Sl Go.IntWalk
set_option maxHeartbeats 4000000
set_option maxRecDepth 20000
set_option linter.unusedVariables false
theorem RMore_spec (bs : List Int) (hu : u8ok bs) (a : Option Addr) (cap : Nat) (ro : HL) (hro : RoSl 1 (u8s bs) a bs.length ro) (hl : bs.length ≤ 1000000) :
  Ctr Tryz.prog 251 [.int .u32 0, .slice a bs.length cap] [] ro (fun v L' => v = .int .u32 (crcI bs : Int) ∧ L' = []) := by
 refine Ctr.enter (n := 37) [.tmp 4] [(0, _), (1, _)] Tryz.func251 rfl rfl rfl (lb rfl) Tryz.call251 ⟨rfl, rfl, trivial⟩ ?_
 intro cx fin fin0
 refine aG ?_
 refine aV (OpVal.sub (r := 4294967295) rfl rfl (by decide)) ?_
 refine aLp (fun k ρ1 L1 => ∃ j : Nat, j ≤ bs.length ∧ k = bs.length - j ∧ ρ1 = [(6, .int .i64 (j : Int)), (5, .int .u32 (crcAt bs j : Int)), (1, .slice a bs.length cap)] ∧ L1 = []) (o := ⟨0, Nat.zero_le _, rfl, rfl, rfl⟩) (h := ?_)
 rintro k ρ1 L1 ⟨j, hj, rfl, rfl, rfl⟩
 refine aG ?_
 by_cases hlt : j < bs.length
 ·
  have hz : (j : Int) < (bs.length : Int) := by omega
  have hb := crcAt_lt hu j
  have hnx := crcAt_next hlt
  have huj := hu _ (List.getElem_mem hlt)
  obtain ⟨bx, ox, lx, ex, frx, rfl, rfl, -, hld⟩ := RoSl.at (f := fun x : Int => [Value.int .u8 x]) (m := 1) (fun _ => rfl) hro hlt
  have l0 : lx[ox + j * 1]? = some (.int .u8 bs[j]) := hld 0 (by decide)
  generalize hcj : bs[j] = c at *
  obtain ⟨c, rfl⟩ : ∃ d : Nat, c = (d : Int) := ⟨c.toNat, by omega⟩
  rw [Int.toNat_natCast] at hnx
  have hxc : crcAt bs j ^^^ c < 2 ^ 32 := Nat.xor_lt_two_pow hb (by omega)
  repeat (first | refine gh hz ?_ | refine gN fun _ => ?_ | refine gB fun _ => ?_ | fail)
  refine aV (OpVal.ixI tab_ok rfl rfl rfl rfl rfl hlt) ?_
  refine aV (OpVal.load tab_ok rfl (show At _ _ bx (.cells lx.toArray ex frx) from .inr (by simp)) l0) ?_
  refine aV (OpVal.conv tab_ok rfl rfl rfl (u32n (by omega))) ?_
  refine aV (OpVal.xor32 (a := crcAt bs j) (b := c) rfl rfl hb (by omega)) ?_
  generalize crcAt bs j ^^^ c = x at *
  repeat (first | refine gh hz ?_ | refine gN fun _ => ?_ | refine gB fun _ => ?_ | fail)
  refine aLp (fun k ρ1 L1 => ∃ i : Nat, i ≤ 8 ∧ k = 8 - i ∧ ρ1 = [(7, .int .i64 (i : Int)), (5, .int .u32 (csteps i x : Int)), (6, .int .i64 (j : Int)), (1, .slice (some ⟨bx, ox, none⟩) bs.length cap)] ∧ L1 = []) (o := ⟨0, by decide, rfl, rfl, rfl⟩) (h := ?_)
  rintro k ρ1 L1 ⟨i, hi, rfl, rfl, rfl⟩
  refine aG ?_
  by_cases hlt2 : i < 8
  ·
   have hz2 : (i : Int) < 8 := by omega
   have hy := csteps_lt i hxc
   have hs := csteps_snoc i x
   unfold cstep at hs
   generalize csteps i x = y at *
   have hrem : ((y : Int).tmod 2) = ((y % 2 : Nat) : Int) := rfl
   have hquo : IntKind.u32.wrap ((y : Int).tdiv 2) = ((y / 2 : Nat) : Int) := by rw [u32_quo _ _ (by omega)]; omega
   repeat (first | refine gh hz2 ?_ | refine gN fun _ => ?_ | refine gB fun _ => ?_ | fail)
   refine aV (OpVal.rem rfl rfl (by decide) hrem) ?_
   rcases Nat.mod_two_eq_zero_or_one y with h2 | h2
   ·
    have h1 : ¬ ((y % 2 : Nat) : Int) = 1 := by omega
    rw [if_neg (by omega)] at hs
    repeat (first | refine gh h1 ?_ | refine gN fun _ => ?_ | refine gB fun _ => ?_ | fail)
    refine aV (OpVal.quo rfl rfl (by decide) hquo) ?_
    rw [← hs]
    repeat (first | refine gh hz2 ?_ | refine gN fun _ => ?_ | refine gB fun _ => ?_ | fail)
    refine aR (o := ⟨8 - (i + 1), by omega, i + 1, by omega, rfl, rfl, rfl⟩)
   ·
    have h1 : ((y % 2 : Nat) : Int) = 1 := by omega
    rw [if_pos h2] at hs
    repeat (first | refine gh h1 ?_ | refine gN fun _ => ?_ | refine gB fun _ => ?_ | fail)
    refine aV (OpVal.quo rfl rfl (by decide) hquo) ?_
    refine aV (OpVal.xor32 (a := y / 2) (b := poly) rfl rfl (by omega) poly_lt) ?_
    rw [← hs]
    repeat (first | refine gh hz2 ?_ | refine gN fun _ => ?_ | refine gB fun _ => ?_ | fail)
    refine aR (o := ⟨8 - (i + 1), by omega, i + 1, by omega, rfl, rfl, rfl⟩)
  ·
   obtain rfl : i = 8 := by omega
   have hz2 : ¬ ((8 : Nat) : Int) < 8 := by decide
   rw [← hnx]
   repeat (first | refine gh hz2 ?_ | refine gN fun _ => ?_ | refine gB fun _ => ?_ | fail)
   refine aR (o := ⟨bs.length - (j + 1), by omega, j + 1, by omega, rfl, rfl, rfl⟩)
 ·
  obtain rfl : j = bs.length := by omega
  have hz : ¬ (bs.length : Int) < (bs.length : Int) := by omega
  have hb := crcAt_lt hu bs.length
  repeat (first | refine gh hz ?_ | refine gN fun _ => ?_ | refine gB fun _ => ?_ | fail)
  refine aV (OpVal.sub (r := ((4294967295 - crcAt bs bs.length : Nat) : Int)) rfl rfl (by rw [← u32n (r := 4294967295 - crcAt bs bs.length) (by omega)]; congr 1; omega)) ?_
  rw [← crcAt_all]
  repeat (first | refine gx ?_ | refine gN fun _ => ?_ | refine gB fun _ => ?_ | fail)
  refine W.ret (fin _ _ (FinOk.mk' ([]) (.tmp rfl .nil) (by repeat (first | exact Sel.nil | (apply Sel.cons; (repeat (first | exact Pick.here | apply Pick.there))))) rfl ?_))
  exact ⟨rfl, rfl⟩
theorem VRPut_spec (bs : List Int) (hu : u8ok bs) (a : Option Addr) (cap : Nat) (ro : HL) (hro : RoSl 1 (u8s bs) a bs.length ro) (hl : bs.length ≤ 100000) :
  Ctr Tryz.prog 212 [.slice a bs.length cap] [] ro (fun v L' => ∃ a' cap' H, v = .slice a' (sealB bs).length cap' ∧ L' = [H] ∧ Own 1 5 (u8s (sealB bs)) a' (sealB bs).length cap' H) := by
 have hS := RMore_spec bs hu a cap ro hro (by omega)
 have hlt := crcI_lt hu
 unfold sealB
 generalize crcI bs = x at *
 refine Ctr.enter (n := 24) [.tmp 2] [(0, _)] Tryz.func212 rfl rfl rfl (lb rfl) Tryz.call212 ⟨rfl, trivial⟩ ?_
 intro cx fin fin0
 refine aG ?_
 refine aC (o := hS) (h := ?_)
 rintro _ _ ⟨rfl, rfl⟩
 refine aG ?_
 repeat (first | refine gx ?_ | refine gN fun _ => ?_ | refine gB fun _ => ?_ | fail)
 refine W.nilChunk ?_
 refine aPr (appU8 (xs := []) tab_ok rfl rfl rfl (Own.nil 1 5) (by intro p hp; cases hp) rfl hro (fun q hq => .inr hq) (by simp; omega) (by simp; omega)) ?_
 rintro _ _ ⟨a1, c1, H1, rfl, rfl, how⟩
 refine aG ?_
 rw [List.nil_append] at how
 repeat (first | refine gx ?_ | refine gN fun _ => ?_ | refine gB fun _ => ?_ | fail)
 refine aLp (fun k ρ1 L1 => ∃ (j y : Nat) (a1 : Option Addr) (c1 : Nat) (H1 : HL), j ≤ 4 ∧ k = 4 - j ∧ y = x / 256 ^ j ∧ Own 1 5 (u8s (bs ++ chk x j)) a1 (bs.length + j) c1 H1 ∧ ρ1 = [(5, .int .i64 (j : Int)), (4, .slice a1 (bs.length + j) c1), (3, .int .u32 (y : Int))] ∧ L1 = [H1]) (o := ⟨0, x, a1, c1, H1, by decide, rfl, by simp, by simpa [chk] using how, rfl, rfl⟩) (h := ?_)
 rintro k ρ1 L1 ⟨j, y, a1, c1, H1, hj, rfl, hy, how, rfl, rfl⟩
 refine aG ?_
 by_cases hlt2 : j < 4
 ·
  have hz : (j : Int) < 4 := by omega
  have hyl : y < 2 ^ 32 := by rw [hy]; exact Nat.lt_of_le_of_lt (Nat.div_le_self _ _) hlt
  have hrem : ((y : Int).tmod 256) = ((y % 256 : Nat) : Int) := rfl
  have hquo : IntKind.u32.wrap ((y : Int).tdiv 256) = ((y / 256 : Nat) : Int) := by rw [u32_quo _ _ (by omega)]; omega
  have e1 : y / 256 = x / 256 ^ (j + 1) := by rw [hy, Nat.div_div_eq_div_mul, Nat.pow_succ 256 j]
  have e2 : u8s (bs ++ chk x j) ++ [.int .u8 ((y % 256 : Nat) : Int)] = u8s (bs ++ chk x (j + 1)) := by
   rw [show chk x (j + 1) = chk x j ++ [((x / 256 ^ j % 256 : Nat) : Int)] from rfl, ← List.append_assoc, u8s_append (bs ++ chk x j), ← hy]
   rfl
  repeat (first | refine gh hz ?_ | refine gN fun _ => ?_ | refine gB fun _ => ?_ | fail)
  refine aV (OpVal.rem rfl rfl (by decide) hrem) ?_
  refine aV (OpVal.conv tab_ok rfl rfl rfl (u8n (Nat.mod_lt _ (by decide)))) ?_
  refine aSl (ps := [_]) ?_
  intro bt
  refine aG ?_
  refine aAp (how) ?_
  rintro _ _ ⟨_, _, _, rfl, rfl, ho⟩
  refine aG ?_
  refine aV (OpVal.quo rfl rfl (by decide) hquo) ?_
  rw [e2] at ho
  repeat (first | refine gh hz ?_ | refine gN fun _ => ?_ | refine gB fun _ => ?_ | fail)
  refine aR (o := ⟨4 - (j + 1), by omega, j + 1, _, _, _, _, by omega, rfl, e1, ho, rfl, rfl⟩)
 ·
  obtain rfl : j = 4 := by omega
  have hz : ¬ ((4 : Nat) : Int) < 4 := by decide
  repeat (first | refine gh hz ?_ | refine gN fun _ => ?_ | refine gB fun _ => ?_ | fail)
  refine W.ret (fin _ _ (FinOk.first 1 (.tmp rfl .nil) rfl ?_))
  exact ⟨_, _, _, by rw [List.length_append, chk_len]; rfl, rfl, by rw [List.length_append, chk_len]; exact how⟩
end Go.Proofs.YtfpghdcjdnifcaaGreat
namespace Go.Proofs.YtfpghdcjdnifcaaGreat
open Go Go.Sl Go.IntWalk
set_option maxHeartbeats 8000000
set_option maxRecDepth 20000
set_option linter.unusedVariables false
def clsV (l : List Cl) : List Value := l.flatMap fun c => [c.v]
def ListIn (D : HL) (ls : List (List Int)) (a : Option Addr) : Prop := ∃ (cls : List Cl) (r : HL), cls.map Cl.xs = ls ∧ RoSl 1 (clsV cls) a ls.length r ∧ (∀ q ∈ r, q ∈ D) ∧ ∀ c ∈ cls, ClIn D c
theorem ListIn.mono {D D' : HL} {ls : List (List Int)} {a : Option Addr} (h : ListIn D ls a) (hs : ∀ q ∈ D, q ∈ D') : ListIn D' ls a := by
 obtain ⟨cls, r, h1, h2, h3, h4⟩ := h
 exact ⟨cls, r, h1, h2, fun q hq => hs q (h3 q hq), fun c hc => (h4 c hc).mono hs⟩
theorem ListIn.at_ {D : HL} {ls : List (List Int)} {a : Option Addr} (h : ListIn D ls a) {i : Nat} (hi : i < ls.length) :
  ∃ bx ox lx ex frx c, a = some ⟨bx, ox, none⟩ ∧ (bx, Obj.cells (List.toArray lx) ex frx) ∈ D ∧ lx[ox + i * 1]? = some (Cl.v c) ∧ c.xs = ls[i] ∧ ClIn D c := by
 obtain ⟨cls, r, rfl, h2, h3, h4⟩ := h
 rw [List.length_map] at h2 hi
 obtain ⟨bx, ox, lx, ex, frx, h5, h6, -, hld⟩ := RoSl.at (f := fun c : Cl => [c.v]) (m := 1) (fun _ => rfl) h2 hi
 exact ⟨bx, ox, lx, ex, frx, cls[i], h5, h3 _ (by rw [h6]; simp), hld 0 (by decide), by simp, h4 _ (List.getElem_mem hi)⟩
def DocD (d : Dv) (v : Value) (D : HL) : Prop := ∃ a c at_ ct ah ch, v = .agg (List.toArray [.slice a d.lasts.length c, .slice at_ d.later.length ct, .slice ah d.head.length ch]) ∧ ListIn D d.lasts a ∧ ListIn D d.later at_ ∧ ClIn D ⟨ah, ch, d.head⟩
theorem DocD.mono {d : Dv} {v : Value} {D D' : HL} (h : DocD d v D) (hs : ∀ q ∈ D, q ∈ D') : DocD d v D' := by
 obtain ⟨a, c, at_, ct, ah, ch, h1, h2, h3, h4⟩ := h
 exact ⟨a, c, at_, ct, ah, ch, h1, h2.mono hs, h3.mono hs, h4.mono hs⟩
end Go.Proofs.YtfpghdcjdnifcaaGreat
namespace Go.Proofs.YtfpghdcjdnifcaaGreat
open Go Go.Sl Go.IntWalk
set_option maxHeartbeats 8000000
set_option maxRecDepth 20000
set_option linter.unusedVariables false
end Go.Proofs.YtfpghdcjdnifcaaGreat
namespace Go.Proofs.YtfpghdcjdnifcaaGreat
open Go Go.Sl Go.IntWalk
set_option maxHeartbeats 8000000
set_option maxRecDepth 20000
set_option linter.unusedVariables false
theorem nil_in (D : HL) : ClIn D ⟨none, 0, []⟩ := ⟨Nat.le_refl _, [], ⟨rfl, .inl ⟨rfl, rfl⟩⟩, fun q hq => by cases hq⟩
end Go.Proofs.YtfpghdcjdnifcaaGreat
namespace Go.Proofs.YtfpghdcjdnifcaaGreat
open Go Go.Sl Go.IntWalk
set_option maxHeartbeats 8000000
set_option maxRecDepth 20000
set_option linter.unusedVariables false
def BlsIn (D : HL) (bs : List Bool) (a : Option Addr) : Prop := ∃ r, RoSl 1 (bls bs) a bs.length r ∧ ∀ q ∈ r, q ∈ D
theorem BlsIn.mono {D D' : HL} {bs : List Bool} {a : Option Addr} (h : BlsIn D bs a) (hs : ∀ q ∈ D, q ∈ D') : BlsIn D' bs a := by
 obtain ⟨r, h1, h2⟩ := h
 exact ⟨r, h1, fun q hq => hs q (h2 q hq)⟩
def DocS (bs : List Bool) (v : Value) (D : HL) : Prop := ∃ (a : Option Addr) (cap n : Nat), v = .agg (List.toArray [.slice a bs.length cap, .int .i64 (n : Int)]) ∧ bs.length ≤ cap ∧ n + bs.length ≤ 4294967296 ∧ BlsIn D bs a
theorem DocS.mono {bs : List Bool} {v : Value} {D D' : HL} (h : DocS bs v D) (hs : ∀ q ∈ D, q ∈ D') : DocS bs v D' := by
 obtain ⟨a, cap, n, h1, h2, h3, h4⟩ := h
 exact ⟨a, cap, n, h1, h2, h3, h4.mono hs⟩
end Go.Proofs.YtfpghdcjdnifcaaGreat
namespace Go.Proofs.YtfpghdcjdnifcaaGreat
open Go Go.Sl Go.IntWalk
set_option maxHeartbeats 8000000
set_option maxRecDepth 20000
set_option linter.unusedVariables false
end Go.Proofs.YtfpghdcjdnifcaaGreat
namespace Go.Proofs.YtfpghdcjdnifcaaGreat
open Go Go.Sl Go.IntWalk
set_option maxHeartbeats 8000000
set_option maxRecDepth 20000
set_option linter.unusedVariables false
theorem clsV_snoc (l : List Cl) (c : Cl) : clsV (l ++ [c]) = clsV l ++ [c.v] := by simp [clsV]
theorem VRNew_spec (n : Nat) (hn : n ≤ 1024) : Ctr Tryz.prog 155 [.int .i64 (n : Int)] [] [] (fun v L' => ∃ H, L' = [H] ∧ DocD (Dv.new n) v H) := by
 have hz16 : u8ok (List.replicate 16 0) := z16_ok
 have hP := fun b => VRPut_spec (List.replicate 16 0) hz16 (some ⟨b, 0, none⟩) 16 [(b, .cells (u8s (List.replicate 16 0)).toArray 5 (0, 0))] (roOwn b _ _) (by decide)
 have hz20 : (sealB (List.replicate 16 0)).length = 20 := zcell_len
 have e16 : repL 16 [Value.int .u8 0] = u8s (List.replicate 16 0) := rfl
 have hzc : sealB (List.replicate 16 0) = zcell := rfl
 rw [hz20] at hP
 rw [hzc] at hP
 refine Ctr.enter (n := 23) [.cell 2 122] [(0, _)] Tryz.func155 rfl rfl rfl (lb rfl) Tryz.call155 ⟨rfl, trivial⟩ ?_
 intro cx fin fin0
 refine aG ?_
 repeat (first | refine gx ?_ | refine gN fun _ => ?_ | refine gB fun _ => ?_ | fail)
 rename_i b2 b3
 refine W.nilChunk ?_
 refine W.nilChunk ?_
 refine W.nilChunk ?_
 refine aLp (fun q ρ1 L1 => ∃ (j : Nat) (al : Option Addr) (cl : Nat) (at_ : Option Addr) (ct : Nat) (Hl Ht HD : HL) (cls : List Cl), j ≤ n ∧ q = n - j ∧ Own 1 54 (clsV cls) al j cl Hl ∧ Own 1 54 (clsV (List.replicate j ⟨none, 0, []⟩)) at_ j ct Ht ∧ cls.map Cl.xs = List.replicate j zcell ∧ (∀ c ∈ cls, ClIn HD c) ∧ ρ1 = [(4, .int .i64 (j : Int)), (3, .pointer (some ⟨b3, 0, none⟩)), (2, .pointer (some ⟨b2, 0, none⟩)), (0, .int .i64 (n : Int))] ∧ L1 = [Hl, Ht, HD, [(b3, .cells #[.slice al j cl, .slice at_ j ct, .slice none 0 0] 122 (0, 0))], [(b2, .cells #[.slice none 0 0, .slice none 0 0, .slice none 0 0] 122 (0, 0))]]) (o := ⟨0, none, 0, none, 0, [], [], [], [], Nat.zero_le _, rfl, Own.nil 1 _, Own.nil 1 _, rfl, (by intro c hc; cases hc), rfl, rfl⟩) (h := ?_)
 rintro q ρ1 L1 ⟨j, al, cl, at_, ct, Hl, Ht, HD, cls, hj, rfl, how, hot, hcls, hin, rfl, rfl⟩
 refine aG ?_
 by_cases hlt : j < n
 ·
  have hz : (j : Int) < (n : Int) := by omega
  repeat (first | refine gh hz ?_ | refine gN fun _ => ?_ | refine gB fun _ => ?_ | fail)
  refine W.drawH tab_ok 5 [.b false, .b false, .b true, .b true, .b true] [] follows (by decide +kernel) (by decide +kernel) rfl (by decide) rfl ?_
  intro _
  refine dG ?_
  refine gdx ?_
  refine dW (NewOf.mks (bytes := 1) (len := 16) (cap := 16) tab_ok rfl rfl rfl rfl rfl rfl rfl rfl rfl (Nat.le_refl _) (by decide) (by decide)) ?_
  intro b4
  rw [e16]
  refine dG ?_
  refine dC (o := hP b4) (h := ?_) (hro := RoIn.own 0 rfl)
  rintro _ _ ⟨a5, c5, H5, rfl, rfl, ho5⟩
  refine dG ?_
  refine dSl (ps := [_]) ?_
  intro bt
  refine dG ?_
  refine WD.nil (W.dropNil (aG ?_))
  refine aAp (how) ?_
  rintro _ _ ⟨_, _, _, rfl, rfl, ho⟩
  refine aG ?_
  have hc5 : ClIn (H5 ++ HD) ⟨a5, c5, zcell⟩ := ⟨by rcases ho5.2 with ⟨_, h0, _⟩ | ⟨_, _, _, _, h0, _⟩ <;> (show zcell.length ≤ c5; rw [zcell_len]; omega), H5, by have := Own.roSl ho5; rw [← zcell_len] at this; exact this, fun q hq => List.mem_append_left _ hq⟩
  have ho2 := ho
  clear ho
  repeat (first | refine gx ?_ | refine gN fun _ => ?_ | refine gB fun _ => ?_ | fail)
  refine aSl (ps := [_]) ?_
  intro bu
  refine aG ?_
  refine aAp (hot) ?_
  rintro _ _ ⟨_, _, _, rfl, rfl, ho⟩
  refine aG ?_
  have e1 : clsV (List.replicate j ⟨none, 0, []⟩) ++ [.slice none 0 0] = clsV (List.replicate (j + 1) ⟨none, 0, []⟩) := by rw [List.replicate_succ', clsV_snoc]; rfl
  have e2 : clsV cls ++ [.slice a5 20 c5] = clsV (cls ++ [(⟨a5, c5, zcell⟩ : Cl)]) := by rw [clsV_snoc]; unfold Cl.v; rw [zcell_len]
  rw [e1] at ho
  rw [e2] at ho2
  have e3 : (cls ++ [(⟨a5, c5, zcell⟩ : Cl)]).map Cl.xs = List.replicate (j + 1) zcell := by rw [List.map_append, hcls, List.replicate_succ']; rfl
  have hin2 : ∀ c ∈ cls ++ [(⟨a5, c5, zcell⟩ : Cl)], ClIn (H5 ++ HD) c := fun c hc => (List.mem_append.1 hc).elim (fun h => (hin c h).mono fun q hq => List.mem_append_right _ hq) (fun h => by rw [List.mem_singleton.1 h]; exact hc5)
  repeat (first | refine gx ?_ | refine gN fun _ => ?_ | refine gB fun _ => ?_ | fail)
  refine W.groupV [4, 5] rfl ?_
  refine aR (o := ⟨n - (j + 1), by omega, j + 1, _, _, _, _, _, _, _, _, by omega, rfl, ho2, ho, e3, hin2, rfl, rfl⟩)
 ·
  obtain rfl : j = n := by omega
  have hz : ¬ (j : Int) < (j : Int) := by omega
  repeat (first | refine gh hz ?_ | refine gN fun _ => ?_ | refine gB fun _ => ?_ | fail)
  have hl1 : (Dv.new j).lasts.length = j := by simp [Dv.new]
  have hl2 : (Dv.new j).later.length = j := by simp [Dv.new]
  refine W.groupV [0, 0, 0] rfl ?_
  refine W.ret (fin _ _ (FinOk.first 1 (aRc .nil) rfl ?_))
  refine ⟨_, rfl, al, cl, at_, ct, none, 0, by rw [hl1, hl2]; rfl, ⟨cls, Hl, hcls, by rw [hl1]; exact Own.roSl how, fun q hq => by simp [hq], fun c hc => (hin c hc).mono fun q hq => by simp [hq]⟩, ⟨List.replicate j ⟨none, 0, []⟩, Ht, by simp [Dv.new], by rw [hl2]; exact Own.roSl hot, fun q hq => by simp [hq], fun c hc => by rw [List.eq_of_mem_replicate hc]; exact nil_in _⟩, nil_in _⟩
end Go.Proofs.YtfpghdcjdnifcaaGreat
namespace Go.Proofs.YtfpghdcjdnifcaaGreat
open Go Go.Sl Go.IntWalk
set_option maxHeartbeats 8000000
set_option maxRecDepth 20000
set_option linter.unusedVariables false
def DocTe (dp : Nat) (e : Te) (l : List Value) (D : HL) : Prop := ∃ l1 l2 l3 l4, l = l1 ++ (l2 ++ (l3 ++ l4)) ∧ DocT dp e.t l1 D ∧ DocD e.d (.agg (List.toArray l2)) D ∧ DocS e.fl (.agg (List.toArray l3)) D ∧ DocS e.kp (.agg (List.toArray l4)) D
theorem DocTe.mono {dp : Nat} {e : Te} {l : List Value} {D D' : HL} (h : DocTe dp e l D) (hs : ∀ q ∈ D, q ∈ D') : DocTe dp e l D' := by
 obtain ⟨l1, l2, l3, l4, h1, h2, h3, h4, h5⟩ := h
 exact ⟨l1, l2, l3, l4, h1, h2.mono hs, h3.mono hs, h4.mono hs, h5.mono hs⟩
def Docs {α : Type} (P : α → List Value → HL → Prop) (D : HL) : List α → List (List Value) → Prop
 | [], ls => ls = []
 | e :: es, ls => ∃ l ls', ls = l :: ls' ∧ P e l D ∧ Docs P D es ls'
theorem Docs.mono {α : Type} {P : α → List Value → HL → Prop} {D D' : HL} (hp : ∀ e l, P e l D → P e l D') : ∀ {es : List α} {ls : List (List Value)}, Docs P D es ls → Docs P D' es ls
 | [], _, h => h
 | e :: es, _, h => by
  obtain ⟨l, ls', rfl, h1, h2⟩ := h
  exact ⟨l, ls', rfl, hp _ _ h1, h2.mono hp⟩
theorem Docs.snoc {α : Type} {P : α → List Value → HL → Prop} {D : HL} {e : α} {l : List Value} (he : P e l D) : ∀ {es : List α} {ls : List (List Value)}, Docs P D es ls → Docs P D (es ++ [e]) (ls ++ [l])
 | [], _, h => by rw [show _ = _ from h]; exact ⟨l, [], rfl, he, rfl⟩
 | x :: es, _, h => by
  obtain ⟨m, ls', rfl, h1, h2⟩ := h
  exact ⟨m, ls' ++ [l], rfl, h1, h2.snoc he⟩
theorem Docs.len {α : Type} {P : α → List Value → HL → Prop} {D : HL} : ∀ {es : List α} {ls : List (List Value)}, Docs P D es ls → ls.length = es.length
 | [], _, h => by rw [show _ = _ from h]; rfl
 | e :: es, _, h => by
  obtain ⟨l, ls', rfl, h1, h2⟩ := h
  simp [h2.len]
theorem Docs.at {α : Type} {P : α → List Value → HL → Prop} {D : HL} : ∀ {es : List α} {ls : List (List Value)} {i : Nat} (hi : i < es.length), Docs P D es ls → ∃ l, ls[i]? = some l ∧ P es[i] l D
 | [], _, _, hi, _ => absurd hi (by simp)
 | e :: es, _, 0, hi, h => by
  obtain ⟨l, ls', rfl, h1, h2⟩ := h
  exact ⟨l, rfl, h1⟩
 | e :: es, _, i + 1, hi, h => by
  obtain ⟨l, ls', rfl, h1, h2⟩ := h
  obtain ⟨m, g1, g2⟩ := Docs.at (i := i) (by simpa using hi) h2
  exact ⟨m, by simpa using g1, by simpa using g2⟩
def DocP (p : Pl) (l : List Value) (D : HL) : Prop := ∃ ac cc rc al cl ls rl, l = [.int .i64 p.c.fr, .int .i64 p.c.dp, .int .i64 p.c.se, .slice ac p.c.ps.length cc, .slice al p.l.length cl, .int .i64 p.now, .int .i64 p.epoch, .int .i64 p.down] ∧
 RoSl 3 (cps p.c.ps) ac p.c.ps.length rc ∧ (∀ q ∈ rc, q ∈ D) ∧ p.c.ps.length ≤ cc ∧ Docs (DocTe p.c.dp.toNat) D p.l ls ∧ RoSl 25 ls.flatten al p.l.length rl ∧ (∀ q ∈ rl, q ∈ D) ∧ p.l.length ≤ cl
def gds : Int → List Cs → List (Int × Int × Int)
 | _, [] => []
 | k, x :: r => (if x.u then [(k, x.g, x.o)] else []) ++ gds (k + 1) r
def gdL (x : Int × Int × Int) : List Value := [.int .i64 x.1, .int .i64 x.2.1, .int .i64 x.2.2]
def DocTb (t : Tb) (l : List Value) (D : HL) : Prop := ∃ a c r, l = [.int .i64 t.e, .int .i64 t.n, .slice a (gds 0 t.s).length c] ∧ RoSl 3 ((gds 0 t.s).flatMap gdL) a (gds 0 t.s).length r ∧ (∀ q ∈ r, q ∈ D) ∧ (gds 0 t.s).length ≤ c
def DocG (g : Gt) (l : List Value) (D : HL) : Prop := ∃ lp at_ ct ls rt, l = lp ++ [.slice at_ g.tabs.length ct, .int .i64 g.p.epoch] ∧ DocP g.p lp D ∧ Docs DocTb D g.tabs ls ∧ RoSl 3 ls.flatten at_ g.tabs.length rt ∧ (∀ q ∈ rt, q ∈ D) ∧ g.tabs.length ≤ ct
theorem DocP.mono {p : Pl} {l : List Value} {D D' : HL} (h : DocP p l D) (hs : ∀ q ∈ D, q ∈ D') : DocP p l D' := by
 obtain ⟨ac, cc, rc, al, cl, ls, rl, h1, h2, h3, h4, h5, h6, h7, h8⟩ := h
 exact ⟨ac, cc, rc, al, cl, ls, rl, h1, h2, fun q hq => hs q (h3 q hq), h4, h5.mono (fun _ _ h => h.mono hs), h6, fun q hq => hs q (h7 q hq), h8⟩
theorem DocTb.mono {t : Tb} {l : List Value} {D D' : HL} (h : DocTb t l D) (hs : ∀ q ∈ D, q ∈ D') : DocTb t l D' := by
 obtain ⟨a, c, r, h1, h2, h3, h4⟩ := h
 exact ⟨a, c, r, h1, h2, fun q hq => hs q (h3 q hq), h4⟩
theorem DocG.mono {g : Gt} {l : List Value} {D D' : HL} (h : DocG g l D) (hs : ∀ q ∈ D, q ∈ D') : DocG g l D' := by
 obtain ⟨lp, at_, ct, ls, rt, h1, h2, h3, h4, h5, h6⟩ := h
 exact ⟨lp, at_, ct, ls, rt, h1, h2.mono hs, h3.mono (fun _ _ h => h.mono hs), h4, fun q hq => hs q (h5 q hq), h6⟩
theorem RTabNew_spec (e : Int) (he : 1 ≤ e ∧ e ≤ 1073741824) : Ctr Tryz.prog 200 [.int .i64 e] [] [] (fun v L' => ∃ l D, v = .agg (List.toArray l) ∧ L' = [D] ∧ DocTb (Tb.new e) l D) := by
 refine Ctr.enter (n := 10) [.cell 2 153] [(0, _)] Tryz.func200 rfl rfl rfl (lb rfl) Tryz.call200 ⟨rfl, trivial⟩ ?_
 intro cx fin fin0
 refine aG ?_
 repeat (first | refine gx ?_ | refine gN fun _ => ?_ | refine gB fun _ => ?_ | fail)
 refine aV (OpVal.mul rfl rfl (i64_in _ (by omega))) ?_
 refine aBu (ps := [_]) ?_
 refine aBu (ps := [_, _]) ?_
 refine aSl (ps := [_]) ?_
 intro bt
 refine aG ?_
 refine aBu (ps := [_, _, _]) ?_
 repeat (first | refine gx ?_ | refine gN fun _ => ?_ | refine gB fun _ => ?_ | fail)
 refine W.order [0, 0] rfl ?_
 refine W.ret (fin _ _ (FinOk.first 1 (aRc .nil) rfl ?_))
 exact ⟨_, _, rfl, rfl, some ⟨bt, 0, none⟩, 1, _, rfl, ⟨rfl, .inr ⟨bt, 0, _, _, _, rfl, rfl, Nat.le_refl _, by show _ = [Value.int .i64 0, .int .i64 (e * 1048576 + 0), .int .i64 15]; rw [Int.add_zero]; rfl⟩⟩, fun q hq => hq, Nat.le_refl _⟩
theorem Own.le {m e : Nat} {cs : List Value} {a : Option Addr} {len cap : Nat} {H : HL} (h : Own m e cs a len cap H) : len ≤ cap := by
 rcases h.2 with ⟨_, h1, h2, _⟩ | ⟨_, _, _, _, h1, _⟩ <;> omega
theorem RTabs_spec (n : Nat) (hn : n ≤ 16) (e : Int) (he : 1 ≤ e ∧ e ≤ 1073741824) : Ctr Tryz.prog 129 [.int .i64 (n : Int), .int .i64 e] [] [] (fun v L' => ∃ a c ls Hl D, v = .slice a n c ∧ L' = [Hl, D] ∧ Docs DocTb D (List.replicate n (Tb.new e)) ls ∧ Own 3 153 ls.flatten a n c Hl) := by
 have hN := RTabNew_spec e he
 refine Ctr.enter (n := 18) [.tmp 4] [(0, _), (1, _)] Tryz.func129 rfl rfl rfl (lb rfl) Tryz.call129 ⟨rfl, rfl, trivial⟩ ?_
 intro cx fin fin0
 refine aG ?_
 repeat (first | refine gx ?_ | refine gN fun _ => ?_ | refine gB fun _ => ?_ | fail)
 refine W.nilChunk ?_
 refine W.nilChunk ?_
 refine aLp (fun k ρ1 L1 => ∃ (j : Nat) (ls : List (List Value)) (a : Option Addr) (c : Nat) (Hl D : HL), j ≤ n ∧ k = n - j ∧ Docs DocTb D (List.replicate j (Tb.new e)) ls ∧ Own 3 153 ls.flatten a j c Hl ∧ ρ1 = [(6, .int .i64 (j : Int)), (5, .slice a j c), (0, .int .i64 (n : Int)), (1, .int .i64 e)] ∧ L1 = [Hl, D]) (o := ⟨0, [], none, 0, [], [], Nat.zero_le _, rfl, rfl, Own.nil 3 _, rfl, rfl⟩) (h := ?_)
 rintro k ρ1 L1 ⟨j, ls, a, c, Hl, D, hj, rfl, hds, how, rfl, rfl⟩
 refine aG ?_
 rcases Classical.em ((j : Int) < (n : Int)) with hz | hz
 ·
  repeat (first | refine gh hz ?_ | refine gN fun _ => ?_ | refine gB fun _ => ?_ | fail)
  refine aC (o := hN) (h := ?_)
  rintro _ _ ⟨l, D2, rfl, rfl, hd2⟩
  refine aG ?_
  obtain ⟨a2, c2, r2, rfl, hd3⟩ := hd2
  refine aSl (ps := [_]) ?_
  intro bt
  refine aG ?_
  refine aAp (how) ?_
  rintro _ _ ⟨_, _, _, rfl, rfl, ho⟩
  refine aG ?_
  have hds2 := (hds.mono (D' := D2 ++ D) (fun _ _ h => h.mono fun q hq => List.mem_append_right _ hq)).snoc (show DocTb (Tb.new e) _ (D2 ++ D) from DocTb.mono ⟨a2, c2, r2, rfl, hd3⟩ fun q hq => List.mem_append_left _ hq)
  rw [← List.replicate_succ'] at hds2
  have e2 : ls.flatten ++ [Value.int .i64 (Tb.new e).e, .int .i64 (Tb.new e).n, .slice a2 (gds 0 (Tb.new e).s).length c2] = (ls ++ [[Value.int .i64 (Tb.new e).e, .int .i64 (Tb.new e).n, .slice a2 (gds 0 (Tb.new e).s).length c2]]).flatten := by simp
  rw [e2] at ho
  repeat (first | refine gh hz ?_ | refine gN fun _ => ?_ | refine gB fun _ => ?_ | fail)
  refine W.groupV [2, 2] rfl ?_
  refine W.order [1, 0] rfl ?_
  refine aR (o := ⟨n - (j + 1), by omega, j + 1, _, _, _, _, _, by omega, rfl, hds2, ho, rfl, rfl⟩)
 ·
  obtain rfl : j = n := by omega
  repeat (first | refine gh hz ?_ | refine gN fun _ => ?_ | refine gB fun _ => ?_ | fail)
  refine W.ret (fin _ _ (FinOk.first 2 (.tmp rfl .nil) rfl ?_))
  exact ⟨_, _, _, _, _, rfl, rfl, hds, how⟩
def bitV (bs : List Bl) (i : Nat) : List Value := match bs[i]? with
 | some b => [b.v, .int .i64 0]
 | none => [.slice none 0 0, .int .i64 0]
def BitsOk (bs : List Bl) : Prop := ∀ b ∈ bs, b.xs.length ≤ b.cap ∧ b.xs.length ≤ 4294967296
theorem bitV_two (bs : List Bl) (i : Nat) : ∃ a n c k, bitV bs i = [.slice a n c, .int .i64 k] := by
 unfold bitV
 split
 · exact ⟨_, _, _, _, rfl⟩
 · exact ⟨_, _, _, _, rfl⟩
theorem bitV_doc {bs : List Bl} {a : Option Addr} {r : HL} (h : BitsAt bs a r) (hb : BitsOk bs) (i : Nat) : DocS ((bs.map Bl.xs).getD i []) (.agg (List.toArray (bitV bs i))) r := by
 obtain ⟨r0, -, -, hall⟩ := h
 unfold bitV
 cases hx : bs[i]? with
 | none =>
  have e : (bs.map Bl.xs).getD i [] = [] := by rw [List.getD_eq_getElem?_getD, List.getElem?_map, hx]; rfl
  rw [e]
  exact ⟨none, 0, 0, rfl, Nat.le_refl _, by decide, [], ⟨rfl, .inl ⟨rfl, rfl⟩⟩, fun _ h => (by cases h)⟩
 | some b =>
  have e : (bs.map Bl.xs).getD i [] = b.xs := by rw [List.getD_eq_getElem?_getD, List.getElem?_map, hx]; rfl
  rw [e]
  obtain ⟨rb, h1, h2, -⟩ := hall b (List.mem_of_getElem? hx)
  obtain ⟨h3, h4⟩ := hb b (List.mem_of_getElem? hx)
  exact ⟨b.a, b.cap, 0, rfl, h3, by omega, rb, h1, h2⟩
theorem RBits_spec (bs : List Bl) (a : Option Addr) (cap : Nat) (r : HL) (h : BitsAt bs a r) (i : Nat) : Ctr Tryz.prog 156 [.slice a bs.length cap, .int .i64 (i : Int)] [] r (fun v L' => v = .agg (List.toArray (bitV bs i)) ∧ L' = []) := by
 obtain ⟨r0, hr0, hs0, hall⟩ := h
 unfold bitV
 rcases Nat.lt_or_ge i bs.length with hlt | hge
 ·
  have hz : ¬ (i : Int) ≥ (bs.length : Int) := by omega
  obtain ⟨bx, ox, lx, ex, frx, rfl, rfl, -, hld⟩ := RoSl.at (f := fun b : Bl => [b.v]) (m := 1) (fun _ => rfl) hr0 hlt
  have l0 : lx[ox + i * 1]? = some (bs[i]).v := hld 0 (by decide)
  rw [List.getElem?_eq_getElem hlt]
  generalize bs[i] = x at *
  simp only [Bl.v] at l0 ⊢
  refine Ctr.enter (n := 15) [.cell 4 124] [(0, _), (1, _)] Tryz.func156 rfl rfl rfl (lb rfl) Tryz.call156 ⟨rfl, rfl, trivial⟩ ?_
  intro cx fin fin0
  refine aG ?_
  repeat (first | refine gx ?_ | refine gN fun _ => ?_ | refine gB fun _ => ?_ | fail)
  repeat (first | refine gh hz ?_ | refine gN fun _ => ?_ | refine gB fun _ => ?_ | fail)
  refine aV (OpVal.ixSl tab_ok rfl rfl rfl rfl rfl hlt) ?_
  refine aV (OpVal.load tab_ok rfl (.inr (hs0 _ (List.mem_singleton.2 rfl))) l0) ?_
  refine aBu (ps := [_]) ?_
  repeat (first | refine gx ?_ | refine gN fun _ => ?_ | refine gB fun _ => ?_ | fail)
  refine W.order [0] rfl ?_
  refine W.ret (fin _ _ (FinOk.first 0 (aRc .nil) rfl ?_))
  exact ⟨rfl, rfl⟩
 ·
  have hz : (i : Int) ≥ (bs.length : Int) := by omega
  rw [List.getElem?_eq_none hge]
  refine Ctr.enter (n := 15) [.cell 4 124] [(0, _), (1, _)] Tryz.func156 rfl rfl rfl (lb rfl) Tryz.call156 ⟨rfl, rfl, trivial⟩ ?_
  intro cx fin fin0
  refine aG ?_
  repeat (first | refine gx ?_ | refine gN fun _ => ?_ | refine gB fun _ => ?_ | fail)
  repeat (first | refine gh hz ?_ | refine gN fun _ => ?_ | refine gB fun _ => ?_ | fail)
  refine aBu (ps := []) ?_
  repeat (first | refine gx ?_ | refine gN fun _ => ?_ | refine gB fun _ => ?_ | fail)
  refine W.order [0] rfl ?_
  refine W.ret (fin _ _ (FinOk.first 0 (aRc .nil) rfl ?_))
  exact ⟨rfl, rfl⟩
theorem RPOpen_spec (c : Cf) (hok : c.Ok) (a : Option Addr) (cap : Nat) (hcap : c.ps.length ≤ cap) (ro : HL) (hro : RoSl 3 (cps c.ps) a c.ps.length ro) (fs ks : List Bl) (af : Option Addr) (cf : Nat) (rf : HL) (hf : BitsAt fs af rf) (hfo : BitsOk fs) (ak : Option Addr) (ck : Nat) (rk : HL) (hk : BitsAt ks ak rk) (hko : BitsOk ks) :
  Ctr Tryz.prog 97 [c.v a cap, .slice af fs.length cf, .slice ak ks.length ck] [] (ro ++ (rf ++ rk)) (fun v L' => ∃ l D, v = .agg (List.toArray l) ∧ L' = [D] ∧ DocP (Pl.new c (fs.map Bl.xs) (ks.map Bl.xs)) l (D ++ (ro ++ (rf ++ rk)))) := by
 have hl := hok.len
 have hBf := fun i => RBits_spec fs af cf rf hf i
 have hBk := fun i => RBits_spec ks ak ck rk hk i
 have hT := fun (i : Nat) (h : i < c.ps.length) => TRNew_spec (c.ps[i]).q.toNat c.dp.toNat (by have := (hok.ps _ (List.getElem_mem h)).1; omega) (c.ps[i]).p
 have hD := fun (i : Nat) (h : i < c.ps.length) => VRNew_spec (2 * (c.ps[i]).p).toNat (by have := (hok.ps _ (List.getElem_mem h)).2.1; omega)
 have hdp : ((c.dp.toNat : Nat) : Int) = c.dp := by have := hok.dp; omega
 rw [hdp] at hT
 refine Ctr.enter (n := 48) [.cell 6 45] [(0, _), (1, _), (2, _)] Tryz.func97 rfl rfl rfl (lb rfl) Tryz.call97 ⟨rfl, rfl, rfl, trivial⟩ ?_
 intro cx fin fin0
 refine aG ?_
 repeat (first | refine gx ?_ | refine gN fun _ => ?_ | refine gB fun _ => ?_ | fail)
 rename_i b3 b6
 refine aBu (ps := [_, _]) ?_
 repeat (first | refine gx ?_ | refine gN fun _ => ?_ | refine gB fun _ => ?_ | fail)
 rename_i b7
 refine W.nilChunk ?_
 refine W.nilChunk ?_
 refine aLp (fun k ρ1 L1 => ∃ (j : Nat) (ls : List (List Value)) (al : Option Addr) (cl : Nat) (Hl Hd : HL), j ≤ c.ps.length ∧ k = c.ps.length - j ∧ Docs (DocTe c.dp.toNat) (Hd ++ (rf ++ rk)) ((Pl.new c (fs.map Bl.xs) (ks.map Bl.xs)).l.take j) ls ∧ Own 25 126 ls.flatten al j cl Hl ∧ ρ1 = [(8, .int .i64 (j : Int)), (7, .pointer (some ⟨b7, 0, none⟩)), (3, .pointer (some ⟨b3, 0, none⟩)), (6, .pointer (some ⟨b6, 0, none⟩)), (1, .slice af fs.length cf), (2, .slice ak ks.length ck)] ∧ L1 = [Hl, Hd, [(b7, .cells #[.int .i64 c.fr, .int .i64 c.dp, .int .i64 c.se, .slice a c.ps.length cap, .slice al j cl, .int .i64 0, .int .i64 1, .int .i64 0] 45 (0, 0))], [(b6, .cells #[.int .i64 0, .int .i64 0, .int .i64 0, .slice none 0 0, .slice none 0 0, .int .i64 0, .int .i64 0, .int .i64 0] 45 (0, 0))], [(b3, .cells #[.int .i64 c.fr, .int .i64 c.dp, .int .i64 c.se, .slice a c.ps.length cap] 24 (0, 0))]]) (o := ⟨0, [], none, 0, [], [], Nat.zero_le _, rfl, rfl, Own.nil 25 _, rfl, rfl⟩) (h := ?_)
 rintro k ρ1 L1 ⟨j, ls, al, cl, Hl, Hd, hj, rfl, hds, how, rfl, rfl⟩
 refine aG ?_
 repeat (first | refine gx ?_ | refine gN fun _ => ?_ | refine gB fun _ => ?_ | fail)
 rcases Classical.em ((j : Int) < (c.ps.length : Int)) with hz | hz
 ·
  have hlt : j < c.ps.length := by omega
  obtain ⟨bx, ox, lx, ex, frx, rfl, rfl, hld⟩ := cps_at hro hlt
  have hTj := hT j hlt
  have hDj := hD j hlt
  have hxo := hok.ps _ (List.getElem_mem hlt)
  have hnt : (Pl.new c (fs.map Bl.xs) (ks.map Bl.xs)).l.take (j + 1) = (Pl.new c (fs.map Bl.xs) (ks.map Bl.xs)).l.take j ++ [teNew (fs.map Bl.xs) (ks.map Bl.xs) j c.ps[j]] := by
   rw [List.take_succ_eq_append_getElem (by rw [new_len]; exact hlt)]
   congr 2
   have := new_at c (fs.map Bl.xs) (ks.map Bl.xs) j hlt
   rw [List.getElem?_eq_getElem (by rw [new_len]; exact hlt)] at this
   exact Option.some.inj this
  have hte : teNew (fs.map Bl.xs) (ks.map Bl.xs) j c.ps[j] = ⟨Tn.new (c.ps[j]).q.toNat (c.ps[j]).p, Dv.new (2 * (c.ps[j]).p).toNat, (fs.map Bl.xs).getD j [], (ks.map Bl.xs).getD j []⟩ := rfl
  have d3 := bitV_doc hf hfo j
  have d4 := bitV_doc hk hko j
  have hBfj := hBf j
  have hBkj := hBk j
  obtain ⟨u1, u2, u3, u4, hu⟩ := bitV_two fs j
  obtain ⟨w1, w2, w3, w4, hw⟩ := bitV_two ks j
  rw [hu] at d3 hBfj
  rw [hw] at d4 hBkj
  have hq1 : (((c.ps[j]).q.toNat : Nat) : Int) = (c.ps[j]).q := by have := hxo.1; omega
  have hq2 : (((2 * (c.ps[j]).p).toNat : Nat) : Int) = 2 * (c.ps[j]).p := by have := hxo.2.1; omega
  rw [hq1] at hTj
  rw [hq2] at hDj
  have hx1 := hxo.2.1
  generalize c.ps[j] = x at *
  repeat (first | refine gh hz ?_ | refine gN fun _ => ?_ | refine gB fun _ => ?_ | fail)
  refine aV (OpVal.ixSl tab_ok rfl rfl rfl rfl rfl hlt) ?_
  refine aV (OpVal.load tab_ok rfl rh hld) ?_
  repeat (first | refine gx ?_ | refine gN fun _ => ?_ | refine gB fun _ => ?_ | fail)
  refine W.drawH tab_ok 22 [.b false, .b false, .b false, .b false, .b false, .b false, .b false, .b false, .b true, .b false, .b false, .b false, .b true, .b false, .b false, .b false, .b false, .b false, .b false, .b false, .b true, .b true] [1] follows (by decide +kernel) (by decide +kernel) rfl (by decide) rfl ?_
  intro _
  refine dG ?_
  refine gdx ?_
  refine dC (o := hTj) (h := ?_)
  rintro _ _ ⟨l1, D1, rfl, rfl, hd1⟩
  refine dG ?_
  refine gdx ?_
  refine dV (OpVal.mul rfl rfl (i64_in _ (by omega))) ?_
  refine gdx ?_
  refine dC (o := hDj) (h := ?_)
  rintro _ _ ⟨D2, rfl, hd2⟩
  refine dG ?_
  obtain ⟨y1, y2, y3, y4, y5, y6, rfl, hd2r⟩ := hd2
  obtain ⟨z1, z2, z3, z4, z5, z6, z7, z8, z9, z10, z11, z12, jl, z13, z14, z15, rfl, hd1r⟩ := hd1
  refine gdx ?_
  refine dQ (o := hBfj) (h := ?_) (hro := (fun q hq => List.mem_append_right _ (List.mem_append_right _ (List.mem_append_left _ hq))))
  refine gdx ?_
  refine dQ (o := hBkj) (h := ?_) (hro := (fun q hq => List.mem_append_right _ (List.mem_append_right _ (List.mem_append_right _ hq))))
  refine gdx ?_
  refine dV (OpVal.build (ps := [_, _, _, _]) tab_ok rfl rfl rfl rfl (by repeat (first | exact trivial | refine ⟨⟨_, _, _, rfl, rfl, rfl⟩, ?_⟩)) rfl) ?_
  refine gdx ?_
  refine dSl (ps := [_]) ?_
  intro bt
  refine dG ?_
  refine dAp (how) ?_
  rintro _ _ ⟨_, _, _, rfl, rfl, ho⟩
  refine dG ?_
  refine gdx ?_
  refine WD.nil (W.dropNil (aG ?_))
  repeat (first | refine gx ?_ | refine gN fun _ => ?_ | refine gB fun _ => ?_ | fail)
  have hD' : DocTe c.dp.toNat ⟨Tn.new x.q.toNat x.p, Dv.new (2 * x.p).toNat, (fs.map Bl.xs).getD j [], (ks.map Bl.xs).getD j []⟩ _ ((D2 ++ (D1 ++ Hd)) ++ (rf ++ rk)) := ⟨_, _, _, _, rfl,
   DocT.mono ⟨z1, z2, z3, z4, z5, z6, z7, z8, z9, z10, z11, z12, jl, z13, z14, z15, rfl, hd1r⟩ (fun q hq => by simp [hq]), DocD.mono ⟨y1, y2, y3, y4, y5, y6, rfl, hd2r⟩ (fun q hq => by simp [hq]), d3.mono (fun q hq => by simp [hq]), d4.mono (fun q hq => by simp [hq])⟩
  have hds2 := (hds.mono (D' := (D2 ++ (D1 ++ Hd)) ++ (rf ++ rk)) (fun _ _ h => h.mono fun q hq => by rcases List.mem_append.1 hq with h | h <;> simp [h])).snoc hD'
  rw [← hte, ← hnt] at hds2
  have e3 : ∀ (n : List Value), ls.flatten ++ n = (ls ++ [n]).flatten := fun n => by simp
  rw [e3] at ho
  refine W.groupV [2, 2, 3] rfl ?_
  refine W.order [1, 0, 2, 2, 2] rfl ?_
  refine aR (o := ⟨c.ps.length - (j + 1), by omega, j + 1, _, _, _, _, _, by omega, rfl, hds2, ho, rfl, rfl⟩)
 ·
  obtain rfl : j = c.ps.length := by omega
  rw [List.take_of_length_le (by rw [new_len]; exact Nat.le_refl _)] at hds
  repeat (first | refine gh hz ?_ | refine gN fun _ => ?_ | refine gB fun _ => ?_ | fail)
  refine W.groupV [0, 0] rfl ?_
  refine W.ret (fin _ _ (FinOk.first 1 (aRc .nil) rfl ?_))
  have hnl := new_len c (fs.map Bl.xs) (ks.map Bl.xs)
  refine ⟨_, _, rfl, rfl, a, cap, ro, al, cl, ls, Hl, ?_, hro, fun q hq => by simp [hq], hcap, ?_, ?_, fun q hq => by simp [hq], ?_⟩
  · rw [hnl]; rfl
  ·
   refine Docs.mono (D := Hd ++ (rf ++ rk)) (fun _ _ h => DocTe.mono h fun q hq => ?_) hds
   rcases List.mem_append.1 hq with h | h
   · simp [h]
   ·
    have h4 := List.mem_append.1 h
    rcases h4 with h | h
    · simp [h]
    · simp [h]
  · rw [hnl]; exact Own.roSl how
  · rw [hnl]; exact Own.le how
end Go.Proofs.YtfpghdcjdnifcaaGreat
namespace Go.Proofs.YtfpghdcjdnifcaaGreat
open Go Go.Sl Go.IntWalk
set_option maxHeartbeats 8000000
set_option maxRecDepth 20000
set_option linter.unusedVariables false
theorem rint_ok {r : Rd} (h : u8ok r.b) : i64s r.int.1 ∧ u8ok r.int.2.b := by
 have h1 := uint_range h
 refine ⟨?_, (uint_len h).1⟩
 show i64s (s64 r.uint.1)
 unfold s64 i64s
 split <;> omega
theorem rbytes_ok {r : Rd} (h : u8ok r.b) (m : Int) : u8ok (r.bytes m).1 := by
 unfold Rd.bytes
 split
 · exact (take_ok (r := ⟨[], true⟩) (by intro x hx; cases hx) _).1
 · exact (take_ok (uint_len h).1 _).1
theorem rbytes_len {r : Rd} (h : u8ok r.b) {m : Int} (hm : 0 ≤ m) : ((r.bytes m).1.length : Int) ≤ m := by
 have h0 := uint_range h
 unfold Rd.bytes
 split
 · unfold Rd.take; rw [if_pos (.inl rfl)]; simpa using hm
 ·
  unfold Rd.take
  split
  · simpa using hm
  · simp only [List.length_take]; omega
theorem rdReq_ok {bs : List Int} (h : u8ok bs) : Rq.I (rdReq bs).1 (rdReq bs).2.1 ∧ u8ok (rdReq bs).2.1.data ∧ (rdReq bs).2.1.data.length ≤ 32 := by
 have k1 := rint_ok (r := ⟨bs, false⟩) h
 have k2 := rint_ok k1.2
 have k3 := rint_ok k2.2
 have k4 := rint_ok k3.2
 have k5 := rint_ok k4.2
 have k6 := rint_ok k5.2
 have k7 := rbytes_ok k6.2 32
 have k8 := rbytes_len k6.2 (m := 32) (by decide)
 have hz : i64s 0 := ⟨by decide, by decide⟩
 unfold rdReq
 simp only
 split
 · exact ⟨⟨hz, hz, hz, hz, hz, hz⟩, (by intro x hx; cases hx), by simp⟩
 · exact ⟨⟨k1.1, k2.1, k3.1, k4.1, k5.1, k6.1⟩, k7, by simp only; omega⟩
theorem GOpen_spec (c : Cf) (hin : c.In) (hps : c.ps.length ≤ 9223372036854775807) (a : Option Addr) (cap : Nat) (hcap : c.ps.length ≤ cap) (ro : HL) (hro : RoSl 3 (cps c.ps) a c.ps.length ro) (fs ks : List Bl) (af : Option Addr) (cf : Nat) (rf : HL) (hf : BitsAt fs af rf) (ak : Option Addr) (ck : Nat) (rk : HL) (hk : BitsAt ks ak rk) :
  Ctr Tryz.prog 17 [c.v a cap, .slice af fs.length cf, .slice ak ks.length ck] [] (ro ++ (rf ++ rk)) (fun v L' => (¬ c.Ok ∧ v = .tuple #[.pointer none, .int .i64 3] ∧ L' = []) ∨
   (c.Ok ∧ ∃ b H, v = .tuple #[.pointer (some ⟨b, 0, none⟩), .int .i64 0] ∧ L' = [H] ∧ GtAt (Gt.new c (fs.map Bl.xs) (ks.map Bl.xs)) b H)) := by
 have hO := POpen_spec c hin hps a cap hcap ro hro fs ks af cf rf hf ak ck rk hk
 rcases Classical.em c.Ok with hok | hno
 ·
  have hO2 := hO.post (post' := fun v L' => ∃ b H, v = .tuple #[.pointer (some ⟨b, 0, none⟩), .int .i64 0] ∧ L' = [H] ∧ PlAt (Pl.new c (fs.map Bl.xs) (ks.map Bl.xs)) b H) (fun v L' h => h.elim (fun h => absurd hok h.1) (fun h => h.2))
  refine Ctr.enter (n := 25) [.tmp 6, .tmp 7] [(0, _), (1, _), (2, _)] Tryz.func17 rfl rfl rfl (lb rfl) Tryz.call17 ⟨rfl, rfl, rfl, trivial⟩ ?_
  intro cx fin fin0
  refine aG ?_
  repeat (first | refine gx ?_ | refine gN fun _ => ?_ | refine gB fun _ => ?_ | fail)
  refine aC (o := hO2) (h := ?_) (hro := RoIn.same)
  rintro _ _ ⟨bp, Hp, rfl, rfl, hp⟩
  refine aG ?_
  repeat (first | refine gx ?_ | refine gN fun _ => ?_ | refine gB fun _ => ?_ | fail)
  refine aBu (ps := [_]) ?_
  repeat (first | refine gx ?_ | refine gN fun _ => ?_ | refine gB fun _ => ?_ | fail)
  refine aBu (ps := [_]) ?_
  repeat (first | refine gx ?_ | refine gN fun _ => ?_ | refine gB fun _ => ?_ | fail)
  refine W.groupV [0, 0, 0] rfl ?_
  refine W.ret (fin _ _ (FinOk.first 1 (.tmp rfl (.tmp rfl .nil)) rfl ?_))
  refine .inr ⟨hok, _, _, rfl, rfl, _, _, rfl, .inr ⟨bp, 0, none, 0, 0, Hp, rfl, hp, by show (0 : Int) ≠ 1; decide, ?_⟩⟩
  show List.replicate c.ps.length (Tb.new 1) = List.replicate (Pl.new c (fs.map Bl.xs) (ks.map Bl.xs)).l.length (Tb.new 1)
  rw [new_len]
 ·
  have hO2 := hO.post (post' := fun v L' => v = .tuple #[.pointer none, .int .i64 3] ∧ L' = []) (fun v L' h => h.elim (fun h => h.2) (fun h => absurd h.1 hno))
  refine Ctr.enter (n := 25) [.tmp 6, .tmp 7] [(0, _), (1, _), (2, _)] Tryz.func17 rfl rfl rfl (lb rfl) Tryz.call17 ⟨rfl, rfl, rfl, trivial⟩ ?_
  intro cx fin fin0
  refine aG ?_
  repeat (first | refine gx ?_ | refine gN fun _ => ?_ | refine gB fun _ => ?_ | fail)
  refine aC (o := hO2) (h := ?_) (hro := RoIn.same)
  rintro _ _ ⟨rfl, rfl⟩
  refine aG ?_
  repeat (first | refine gx ?_ | refine gN fun _ => ?_ | refine gB fun _ => ?_ | fail)
  refine W.order [] rfl ?_
  refine W.ret (fin _ _ (FinOk.first 0 (.tmp rfl (.tmp rfl .nil)) rfl ?_))
  exact .inl ⟨hno, rfl, rfl⟩
theorem spl3g {P : Program} {n : Nat} {R : HL} {cx : Cx} {K : List Kont} {ρ : Env} {L M : List HL} {A B C : HL} (h : L = (A ++ (B ++ C)) :: M) (hk : W P n R cx K ρ (A :: B :: C :: M)) : W P n R cx K ρ L := by
 subst h
 exact W.regroup (by simp) hk
theorem Table_spec (g : Gt) (hi : g.Inv) (bx : Nat) (H : HL) (h : InAny g bx H) (i : Int) : Ctr Tryz.prog 70 [.pointer (some ⟨bx, 0, none⟩), .int .i64 i] [H] []
  (fun v L' => (g.why i ≠ 0 ∧ v = .tuple #[.pointer none, .int .i64 (g.why i)] ∧ L' = [H]) ∨ (g.why i = 0 ∧ ∃ (j bp : Nat) (al : Option Addr) (cl : Nat) (bts : List Nat) (bt : Nat) (Hp Hl Ht : HL), i = (j : Int) ∧ j < g.tabs.length ∧ bts[j]? = some bt ∧ v = .tuple #[.pointer (some ⟨bt, 0, none⟩), .int .i64 0] ∧
   L' = [[(bx, Obj.cells (List.toArray (inCells bp g.p.epoch al g.p.l.length cl)) 136 (0, 0))], Hp, Hl, Ht] ∧ TbsAt g bp al bts Hp Hl Ht)) := by
 have hRn := Renew_spec g hi bx H h
 obtain ⟨bp, ep, al, n, cl, Hp, Z, rfl, hp⟩ := h.pool
 have hL := PLenP_spec g.p bp Hp hp
 have hR := PReady_spec g.p bp Hp hp
 have hiw : g.why i = if ¬ g.p.in_ i then 1 else if g.p.down ≠ 0 then 12 else 0 := rfl
 unfold Pl.in_ at hiw
 generalize g.why i = w at *
 refine Ctr.enter (n := 34) [.tmp 4, .tmp 5] [(0, _), (1, _)] Tryz.func70 rfl rfl rfl (lb rfl) Tryz.call70 ⟨rfl, rfl, trivial⟩ ?_
 intro cx fin fin0
 refine aG ?_
 refine spl3g rfl ?_
 refine aG ?_
 repeat (first | refine gx ?_ | refine gN fun _ => ?_ | refine gB fun _ => ?_ | fail)
 rcases Classical.em (i < 0) with g1 | g1
 ·
  rw [if_pos (by omega)] at hiw
  repeat (first | refine gh g1 ?_ | refine gN fun _ => ?_ | refine gB fun _ => ?_ | fail)
  refine W.groupV [0, 0, 0] rfl ?_
  refine W.ret (fin _ _ (FinOk.first 1 (.tmp rfl (.tmp rfl .nil)) rfl ?_))
  exact .inl ⟨by omega, by rw [hiw]; rfl, rfl⟩
 repeat (first | refine gh g1 ?_ | refine gN fun _ => ?_ | refine gB fun _ => ?_ | fail)
 refine aC (o := hL) (h := ?_) (hro := RoIn.own 1 rfl)
 rintro _ _ ⟨rfl, rfl⟩
 refine aG ?_
 rcases Classical.em (i ≥ (g.p.l.length : Int)) with g2 | g2
 ·
  rw [if_pos (by omega)] at hiw
  repeat (first | refine gh (gc2 g1 g2) ?_ | refine gN fun _ => ?_ | refine gB fun _ => ?_ | fail)
  refine W.groupV [0, 0, 0] rfl ?_
  refine W.ret (fin _ _ (FinOk.first 1 (.tmp rfl (.tmp rfl .nil)) rfl ?_))
  exact .inl ⟨by omega, by rw [hiw]; rfl, rfl⟩
 rw [if_neg (by omega)] at hiw
 repeat (first | refine gh (gc2 g1 g2) ?_ | refine gN fun _ => ?_ | refine gB fun _ => ?_ | fail)
 refine aC (o := hR) (h := ?_) (hro := RoIn.own 1 rfl)
 rintro _ _ ⟨rfl, rfl⟩
 refine aG ?_
 rcases Classical.em (g.p.down = 0) with g3 | g3
 case' inr =>
  rw [if_pos g3] at hiw
  repeat (first | refine gh g3 ?_ | refine gN fun _ => ?_ | refine gB fun _ => ?_ | fail)
  refine W.groupV [0, 0, 0] rfl ?_
  refine W.ret (fin _ _ (FinOk.first 1 (.tmp rfl (.tmp rfl .nil)) rfl ?_))
  exact .inl ⟨by omega, by rw [hiw]; rfl, rfl⟩
 rw [if_neg (fun h => h g3)] at hiw
 subst hiw
 repeat (first | refine gh g3 ?_ | refine gN fun _ => ?_ | refine gB fun _ => ?_ | fail)
 refine W.groupV [0, 0, 0] rfl ?_
 refine aC (o := hRn) (h := ?_)
 rintro _ _ ⟨H2, rfl, bp2, al2, cl2, bts, Hp2, Hl, Ht, rfl, h2⟩
 refine aG ?_
 refine spl4g rfl ?_
 refine aG ?_
 obtain ⟨j, rfl⟩ : ∃ j : Nat, i = (j : Int) := ⟨i.toNat, by omega⟩
 have hj : j < g.p.l.length := by omega
 have htl : j < g.tabs.length := by rw [hi.len]; exact hj
 have hbl := h2.tb.len
 have hbt : bts[j]? = some bts[j] := List.getElem?_eq_getElem (by omega)
 obtain ⟨bl, ol, ll, el, frl, rfl, rfl, l0⟩ := ptrs_at h2.sl (by rw [hbl, hi.len]) hbt
 repeat (first | refine gx ?_ | refine gN fun _ => ?_ | refine gB fun _ => ?_ | fail)
 refine aV (OpVal.ixSl tab_ok rfl rfl rfl rfl rfl hj) ?_
 refine aV (OpVal.load tab_ok rfl (at_own 2 rfl) l0) ?_
 repeat (first | refine gx ?_ | refine gN fun _ => ?_ | refine gB fun _ => ?_ | fail)
 refine W.ret (fin _ _ (FinOk.first 4 (.tmp rfl (.tmp rfl .nil)) rfl ?_))
 exact .inr ⟨rfl, j, bp2, _, cl2, bts, bts[j], Hp2, _, Ht, rfl, htl, hbt, rfl, rfl, h2⟩
theorem keepAll : ∀ L : List HL, Sel L L []
 | [] => .nil
 | c :: L => .cons .here (keepAll L)
theorem TableNo_spec (g : Gt) (hi : g.Inv) (bx : Nat) (H : HL) (h : InAny g bx H) (i : Int) (hw : g.why i ≠ 0) : Ctr Tryz.prog 70 [.pointer (some ⟨bx, 0, none⟩), .int .i64 i] [H] []
  (fun v L' => v = .tuple #[.pointer none, .int .i64 (g.why i)] ∧ L' = [H]) := (Table_spec g hi bx H h i).post fun v L' h => h.elim (fun h => h.2) (fun h => absurd h.1 hw)
theorem TableYes_spec (g : Gt) (hi : g.Inv) (bx : Nat) (H : HL) (h : InAny g bx H) (i : Int) (hw : g.why i = 0) : Ctr Tryz.prog 70 [.pointer (some ⟨bx, 0, none⟩), .int .i64 i] [H] []
  (fun v L' => ∃ (bp : Nat) (al : Option Addr) (cl : Nat) (bts : List Nat) (bt : Nat) (Hp Hl T1 Ti T2 : HL), v = .tuple #[.pointer (some ⟨bt, 0, none⟩), .int .i64 0] ∧
   L' = [[(bx, Obj.cells (List.toArray (inCells bp g.p.epoch al g.p.l.length cl)) 136 (0, 0))], Hp, Hl, T1, Ti, T2] ∧ PlAt g.p bp Hp ∧ TbAt (g.tab i) bt Ti ∧
   ∀ t' Ti' p' Hp', TbAt t' bt Ti' → PlAt p' bp Hp' → p'.epoch = g.p.epoch → p'.l.length = g.p.l.length → InAt ⟨p', (g.setTab i t').tabs⟩ bx ([(bx, Obj.cells (List.toArray (inCells bp g.p.epoch al g.p.l.length cl)) 136 (0, 0))] ++ (Hp' ++ (Hl ++ (T1 ++ (Ti' ++ T2)))))) := by
 refine ((Table_spec g hi bx H h i).out ?_)
 rintro v L' (⟨h1, -⟩ | ⟨-, j, bp, al, cl, bts, bt, Hp, Hl, Ht, rfl, hj, hbt, rfl, rfl, ⟨h1, h2, h3⟩⟩)
 · exact absurd hw h1
 obtain ⟨bt', T1, Ti, T2, e1, rfl, e3, e4⟩ := h3.split hj
 rw [hbt] at e1
 cases e1
 have htb : g.tab (j : Int) = g.tabs[j] := by
  unfold Gt.tab
  rw [Int.toNat_natCast, List.getD_eq_getElem?_getD, List.getElem?_eq_getElem hj, Option.getD_some]
 refine ⟨_, [[(bx, Obj.cells (List.toArray (inCells bp g.p.epoch al g.p.l.length cl)) 136 (0, 0))], Hp, Hl, T1, Ti, T2], [], keepAll _, by simp, bp, al, cl, bts, bt, Hp, Hl, T1, Ti, T2, rfl, rfl, h1, by rw [htb]; exact e3, fun t' Ti' p' Hp' g1 g2 g3 g4 => ?_⟩
 refine ⟨bp, al, cl, bts, Hp', Hl, T1 ++ (Ti' ++ T2), ?_, g2, ?_, ?_⟩
 ·
  show _ = [(bx, Obj.cells (List.toArray (inCells bp p'.epoch al p'.l.length cl)) 136 (0, 0))] ++ _
  rw [g3, g4]
 ·
  show RoSl 1 (ptrs bts) al p'.l.length Hl
  rw [g4]; exact h2
 ·
  show Piles TbAt (g.tabs.set (j : Int).toNat t') bts _
  rw [Int.toNat_natCast]
  exact e4 t' Ti' g1
theorem set_same {g : Gt} (hi : g.Inv) (i : Int) (hw : g.why i = 0) : (⟨g.p, (g.setTab i (g.tab i)).tabs⟩ : Gt) = g := by
 have hj : i.toNat < g.tabs.length := by
  unfold Gt.why Pl.in_ at hw
  rw [hi.len]
  split at hw
  · cases hw
  ·
   rename_i h
   have h2 : 0 ≤ i ∧ i < (g.p.l.length : Int) := Decidable.byContradiction h
   omega
 obtain ⟨p, tabs⟩ := g
 unfold Gt.setTab Gt.tab
 simp only
 congr 1
 simp only at hj
 rw [List.getD_eq_getElem?_getD, List.getElem?_eq_getElem hj, Option.getD_some, List.set_getElem_self]
theorem GRoot_spec (g : Gt) (hi : g.Inv) (b : Nat) (H : HL) (h : GtAt g b H) (i : Int) : Ctr Tryz.prog 19 [.pointer (some ⟨b, 0, none⟩), .int .i64 i] [H] [] (fun v L' => ∃ H', v = .tuple #[capV (g.root i).1, .int .i64 (g.root i).2] ∧ L' = [H'] ∧ GtAt g b H') := by
 obtain ⟨bx, Hx, rfl, ha⟩ := h
 unfold Gt.root
 rcases Classical.em (g.why i = 0) with hw | hw
 ·
  have hT := TableYes_spec g hi bx Hx ha i hw
  have hss := set_same hi i hw
  refine Ctr.enter (n := 23) [.cell 4 33, .tmp 5] [(0, _), (1, _)] Tryz.func19 rfl rfl rfl (lb rfl) Tryz.call19 ⟨rfl, rfl, trivial⟩ ?_
  intro cx fin fin0
  refine aG ?_
  repeat (first | refine gx ?_ | refine gN fun _ => ?_ | refine gB fun _ => ?_ | fail)
  refine W.order [1, 0] rfl ?_
  refine spl2 rfl ?_
  refine aG ?_
  repeat (first | refine gx ?_ | refine gN fun _ => ?_ | refine gB fun _ => ?_ | fail)
  refine aC (o := hT) (h := ?_)
  rintro _ _ ⟨bp, al, cl, bts, bt, Hp, Hl, T1, Ti, T2, rfl, rfl, hp, htb, hback⟩
  refine aG ?_
  have hR := TRoot_spec _ bt Ti htb
  repeat (first | refine gx ?_ | refine gN fun _ => ?_ | refine gB fun _ => ?_ | fail)
  refine aC (o := hR) (h := ?_) (hro := RoIn.own 4 rfl)
  rintro _ _ ⟨rfl, rfl⟩
  refine aG ?_
  repeat (first | refine gx ?_ | refine gN fun _ => ?_ | refine gB fun _ => ?_ | fail)
  refine W.groupV [6, 0, 0, 0, 0, 0, 0] rfl ?_
  refine W.ret (fin _ _ (FinOk.first 1 (aRc (.tmp rfl .nil)) rfl ?_))
  rw [if_neg (fun h => h hw)]
  have hx := hback _ Ti g.p Hp htb hp rfl rfl
  rw [hss] at hx
  exact ⟨_, rfl, rfl, bx, _, rfl, .inl hx⟩
 ·
  have hT := TableNo_spec g hi bx Hx ha i hw
  generalize hk : g.why i = k at *
  refine Ctr.enter (n := 23) [.cell 4 33, .tmp 5] [(0, _), (1, _)] Tryz.func19 rfl rfl rfl (lb rfl) Tryz.call19 ⟨rfl, rfl, trivial⟩ ?_
  intro cx fin fin0
  refine aG ?_
  repeat (first | refine gx ?_ | refine gN fun _ => ?_ | refine gB fun _ => ?_ | fail)
  refine W.order [1, 0] rfl ?_
  refine spl2 rfl ?_
  refine aG ?_
  repeat (first | refine gx ?_ | refine gN fun _ => ?_ | refine gB fun _ => ?_ | fail)
  refine aC (o := hT) (h := ?_)
  rintro _ _ ⟨rfl, rfl⟩
  refine aG ?_
  repeat (first | refine gh hw ?_ | refine gN fun _ => ?_ | refine gB fun _ => ?_ | fail)
  refine aBu (ps := []) ?_
  repeat (first | refine gx ?_ | refine gN fun _ => ?_ | refine gB fun _ => ?_ | fail)
  refine W.groupV [1, 0] rfl ?_
  refine W.ret (fin _ _ (FinOk.first 1 (aRc (.tmp rfl .nil)) rfl ?_))
  rw [if_pos hw]
  exact ⟨_, rfl, rfl, bx, _, rfl, ha⟩
theorem GMint_spec (g : Gt) (hi : g.Inv) (b : Nat) (H : HL) (h : GtAt g b H) (i : Int) (c : Int × Int) (s : Int) : Ctr Tryz.prog 29 [.pointer (some ⟨b, 0, none⟩), .int .i64 i, capV c, .int .i64 s] [H] [] (fun v L' => ∃ H', v = .tuple #[capV (g.mint i c s).2.1, .int .i64 (g.mint i c s).2.2] ∧ L' = [H'] ∧ GtAt (g.mint i c s).1 b H') := by
 obtain ⟨bx, Hx, rfl, ha⟩ := h
 have hga : GtAt g b ([(b, Obj.cells (List.toArray [.pointer (some ⟨bx, 0, none⟩)]) 138 (0, 0))] ++ Hx) := ⟨bx, Hx, rfl, ha⟩
 unfold Gt.mint
 rcases Classical.em (g.why i = 0) with hw | hw
 ·
  have hT := TableYes_spec g hi bx Hx ha i hw
  have hM := fun bt Ti htb => TMint_spec (g.tab i) bt Ti htb c s
  obtain ⟨c1, c2⟩ := c
  simp only [capV] at *
  generalize (g.tab i).mint (c1, c2) s = out at *
  refine Ctr.enter (n := 31) [.cell 8 33, .tmp 9] [(0, _), (1, _), (2, _), (3, _)] Tryz.func29 rfl rfl rfl (lb rfl) Tryz.call29 ⟨rfl, rfl, rfl, rfl, trivial⟩ ?_
  intro cx fin fin0
  refine aG ?_
  repeat (first | refine gx ?_ | refine gN fun _ => ?_ | refine gB fun _ => ?_ | fail)
  refine W.order [2, 0, 0] rfl ?_
  refine spl2 rfl ?_
  refine aG ?_
  repeat (first | refine gx ?_ | refine gN fun _ => ?_ | refine gB fun _ => ?_ | fail)
  refine aC (o := hT) (h := ?_)
  rintro _ _ ⟨bp, al, cl, bts, bt, Hp, Hl, T1, Ti, T2, rfl, rfl, hp, htb, hback⟩
  refine aG ?_
  repeat (first | refine gx ?_ | refine gN fun _ => ?_ | refine gB fun _ => ?_ | fail)
  refine aC (o := hM bt Ti htb) (h := ?_)
  rintro _ _ ⟨Ti', rfl, rfl, htb'⟩
  refine aG ?_
  repeat (first | refine gx ?_ | refine gN fun _ => ?_ | refine gB fun _ => ?_ | fail)
  refine W.groupV [6, 1, 1, 1, 1, 0, 0] rfl ?_
  refine W.ret (fin _ _ (FinOk.first 1 (aRc (.tmp rfl .nil)) rfl ?_))
  rw [if_neg (fun h => h hw)]
  have hx := hback _ Ti' g.p Hp htb' hp rfl rfl
  exact ⟨_, rfl, rfl, bx, _, rfl, .inl hx⟩
 ·
  have hT := TableNo_spec g hi bx Hx ha i hw
  generalize hk : g.why i = k at *
  obtain ⟨c1, c2⟩ := c
  simp only [capV] at *
  refine Ctr.enter (n := 31) [.cell 8 33, .tmp 9] [(0, _), (1, _), (2, _), (3, _)] Tryz.func29 rfl rfl rfl (lb rfl) Tryz.call29 ⟨rfl, rfl, rfl, rfl, trivial⟩ ?_
  intro cx fin fin0
  refine aG ?_
  repeat (first | refine gx ?_ | refine gN fun _ => ?_ | refine gB fun _ => ?_ | fail)
  refine W.order [2, 0, 0] rfl ?_
  refine spl2 rfl ?_
  refine aG ?_
  repeat (first | refine gx ?_ | refine gN fun _ => ?_ | refine gB fun _ => ?_ | fail)
  refine aC (o := hT) (h := ?_)
  rintro _ _ ⟨rfl, rfl⟩
  refine aG ?_
  repeat (first | refine gh hw ?_ | refine gN fun _ => ?_ | refine gB fun _ => ?_ | fail)
  refine aBu (ps := []) ?_
  repeat (first | refine gx ?_ | refine gN fun _ => ?_ | refine gB fun _ => ?_ | fail)
  refine W.groupV [1, 0] rfl ?_
  refine W.ret (fin _ _ (FinOk.first 1 (aRc (.tmp rfl .nil)) rfl ?_))
  rw [if_pos hw]
  exact ⟨_, rfl, rfl, hga⟩
end Go.Proofs.YtfpghdcjdnifcaaGreat
namespace Go.Proofs.YtfpghdcjdnifcaaGreat
open Go Go.Sl Go.IntWalk
set_option maxHeartbeats 8000000
set_option maxRecDepth 20000
set_option linter.unusedVariables false
theorem psubmit_same (p : Pl) (i : Int) (q : Rq) : (p.submit i q).1.epoch = p.epoch ∧ (p.submit i q).1.l.length = p.l.length ∧ (p.submit i q).1.now = p.now := by
 unfold Pl.submit
 split
 · exact ⟨rfl, rfl, rfl⟩
 ·
  split
  · exact ⟨rfl, rfl, rfl⟩
  · exact ⟨rfl, setT_len _ _ _, rfl⟩
theorem GAccept_spec (g : Gt) (hi : g.Inv) (b : Nat) (H : HL) (h : GtAt g b H) (i : Int) (hid : g.p.in_ i → (g.p.tn i).t.ids < 1000000) (bs : List Int) (hu : u8ok bs) (hl : bs.length ≤ 1000000) (a : Option Addr) (cap : Nat) (ro : HL) (hro : RoSl 1 (u8s bs) a bs.length ro) :
  Ctr Tryz.prog 75 [.pointer (some ⟨b, 0, none⟩), .int .i64 i, .slice a bs.length cap] [H] ro (fun v L' => ∃ H', v = .tuple #[.int .i64 (g.accept i bs).2.1, .int .i64 (g.accept i bs).2.2] ∧ L' = [H'] ∧ GtAt (g.accept i bs).1 b H') := by
 obtain ⟨bx, Hx, rfl, ha⟩ := h
 have hga : GtAt g b ([(b, Obj.cells (List.toArray [.pointer (some ⟨bx, 0, none⟩)]) 138 (0, 0))] ++ Hx) := ⟨bx, Hx, rfl, ha⟩
 unfold Gt.accept Gt.let_
 rcases Classical.em (g.why i = 0) with hw | hw
 case' inr =>
  have hT := TableNo_spec g hi bx Hx ha i hw
  generalize hk : g.why i = k at *
  refine Ctr.enter (n := 67) [.tmp 6, .tmp 7] [(0, _), (1, _), (2, _)] Tryz.func75 rfl rfl rfl (lb rfl) Tryz.call75 ⟨rfl, rfl, rfl, trivial⟩ ?_
  intro cx fin fin0
  refine aG ?_
  refine spl2 rfl ?_
  refine aG ?_
  repeat (first | refine gx ?_ | refine gN fun _ => ?_ | refine gB fun _ => ?_ | fail)
  refine aC (o := hT) (h := ?_)
  rintro _ _ ⟨rfl, rfl⟩
  refine aG ?_
  repeat (first | refine gh hw ?_ | refine gN fun _ => ?_ | refine gB fun _ => ?_ | fail)
  refine W.groupV [1, 0] rfl ?_
  refine W.ret (fin _ _ (FinOk.first 1 (.tmp rfl (.tmp rfl .nil)) rfl ?_))
  rw [if_pos hw]
  exact ⟨_, rfl, rfl, hga⟩
 have hT := TableYes_spec g hi bx Hx ha i hw
 have hss := set_same hi i hw
 have hQ := QRead_spec bs hu hl a cap ro hro
 obtain ⟨q1, q2, q3⟩ := rdReq_ok hu
 have hN := RiNeeds_spec (rdReq bs).2.1.op
 have hnl := needs_le (rdReq bs).2.1.op
 have hCk := fun bt Ti htb => TCheck_spec (g.tab i) bt Ti htb (rdReq bs).1 (needs (rdReq bs).2.1.op) hnl
 have hS := fun bp Hp hp => PSubmit_spec g.p hi.p bp Hp hp i hid (rdReq bs).2.1 q2 (by omega) q1.2.2.2.2.1 q1.2.2.1
 have hps := psubmit_same g.p i (rdReq bs).2.1
 generalize g.p.submit i (rdReq bs).2.1 = out at *
 generalize (g.tab i).check (rdReq bs).1 (needs (rdReq bs).2.1.op) = k at *
 generalize needs (rdReq bs).2.1.op = nd at *
 generalize rdReq bs = rq at *
 obtain ⟨⟨x1, x2⟩, ⟨qo, qp, qf, ql, qd⟩, e⟩ := rq
 simp only [capV, Rq.v] at *
 refine Ctr.enter (n := 67) [.tmp 6, .tmp 7] [(0, _), (1, _), (2, _)] Tryz.func75 rfl rfl rfl (lb rfl) Tryz.call75 ⟨rfl, rfl, rfl, trivial⟩ ?_
 intro cx fin fin0
 refine aG ?_
 refine spl2 rfl ?_
 refine aG ?_
 repeat (first | refine gx ?_ | refine gN fun _ => ?_ | refine gB fun _ => ?_ | fail)
 refine aC (o := hT) (h := ?_)
 rintro _ _ ⟨bp, al, cl, bts, bt, Hp, Hl, T1, Ti, T2, rfl, rfl, hp, htb, hback⟩
 refine aG ?_
 repeat (first | refine gx ?_ | refine gN fun _ => ?_ | refine gB fun _ => ?_ | fail)
 refine aC (o := hQ) (h := ?_) (hro := RoIn.same)
 rintro _ _ ⟨a', c', rr, D, rfl, rfl, hrr, hsub⟩
 refine aG ?_
 repeat (first | refine gx ?_ | refine gN fun _ => ?_ | refine gB fun _ => ?_ | fail)
 refine aC (o := hN) (h := ?_)
 rintro _ _ ⟨rfl, rfl⟩
 refine aG ?_
 repeat (first | refine gx ?_ | refine gN fun _ => ?_ | refine gB fun _ => ?_ | fail)
 have hsame := hback _ Ti g.p Hp htb hp rfl rfl
 rw [hss] at hsame
 rcases Classical.em (e = 0) with g1 | g1
 case' inr =>
  repeat (first | refine gh g1 ?_ | refine gN fun _ => ?_ | refine gB fun _ => ?_ | fail)
  refine W.groupV [9, 3, 3, 3, 3, 3, 3] rfl ?_
  refine W.ret (fin _ _ (FinOk.first 1 (.tmp rfl (.tmp rfl .nil)) rfl ?_))
  rw [if_neg (fun h => h hw), show (if e ≠ 0 ∨ nd = 0 then (2 : Int) else k) = 2 from if_pos (.inl g1), if_pos (by decide)]
  exact ⟨_, rfl, rfl, bx, _, rfl, .inl hsame⟩
 rcases Classical.em (nd = 0) with g2 | g2
 ·
  repeat (first | refine gh (gc2 g1 g2) ?_ | refine gN fun _ => ?_ | refine gB fun _ => ?_ | fail)
  refine W.groupV [9, 3, 3, 3, 3, 3, 3] rfl ?_
  refine W.ret (fin _ _ (FinOk.first 1 (.tmp rfl (.tmp rfl .nil)) rfl ?_))
  rw [if_neg (fun h => h hw), show (if e ≠ 0 ∨ nd = 0 then (2 : Int) else k) = 2 from if_pos (.inr g2), if_pos (by decide)]
  exact ⟨_, rfl, rfl, bx, _, rfl, .inl hsame⟩
 repeat (first | refine gh (gc2 g1 g2) ?_ | refine gN fun _ => ?_ | refine gB fun _ => ?_ | fail)
 refine aC (o := hCk bt Ti htb) (h := ?_) (hro := RoIn.own 7 rfl)
 rintro _ _ ⟨rfl, rfl⟩
 refine aG ?_
 rcases Classical.em (k = 0) with g3 | g3
 case' inr =>
  repeat (first | refine gh g3 ?_ | refine gN fun _ => ?_ | refine gB fun _ => ?_ | fail)
  refine W.groupV [9, 3, 3, 3, 3, 3, 3] rfl ?_
  refine W.ret (fin _ _ (FinOk.first 1 (.tmp rfl (.tmp rfl .nil)) rfl ?_))
  rw [if_neg (fun h => h hw), show (if e ≠ 0 ∨ nd = 0 then (2 : Int) else k) = k from if_neg (fun h => h.elim (fun h => h g1) g2), if_pos g3]
  exact ⟨_, rfl, rfl, bx, _, rfl, .inl hsame⟩
 repeat (first | refine gh g3 ?_ | refine gN fun _ => ?_ | refine gB fun _ => ?_ | fail)
 refine W.drawH tab_ok 12 [.b false, .b false, .b false, .b false, .b false, .b false, .b false, .b false, .b false, .b true, .b false, .b false] [4] follows (by decide +kernel) (by decide +kernel) rfl (by decide) rfl ?_
 intro _
 refine dG ?_
 refine gdx ?_
 refine dC (o := hS bp Hp hp a' c' rr hrr) (h := ?_) (hro := RoIn.all (fun q hq => by simp [hsub q hq]))
 rintro _ _ ⟨Hp', rfl, rfl, hp'⟩
 refine dG ?_
 refine gdx ?_
 refine WD.nil (W.dropNil (aG ?_))
 repeat (first | refine gx ?_ | refine gN fun _ => ?_ | refine gB fun _ => ?_ | fail)
 refine W.groupV [9, 4, 0, 3, 3, 3, 3] rfl ?_
 refine W.ret (fin _ _ (FinOk.first 1 (.tmp rfl (.tmp rfl .nil)) rfl ?_))
 rw [if_neg (fun h => h hw), show (if e ≠ 0 ∨ nd = 0 then (2 : Int) else k) = k from if_neg (fun h => h.elim (fun h => h g1) g2), if_neg (fun h => h g3)]
 have hx := hback (g.tab i) Ti out.1 Hp' htb hp' hps.1 hps.2.1
 have hx2 : (⟨out.1, (g.setTab i (g.tab i)).tabs⟩ : Gt) = ⟨out.1, g.tabs⟩ := by rw [show (g.setTab i (g.tab i)).tabs = g.tabs from congrArg Gt.tabs hss]
 rw [hx2] at hx
 exact ⟨_, rfl, rfl, bx, _, rfl, .inl hx⟩
def rsV (id e tick : Int) : Value := .agg #[.int .i64 id, .int .i64 e, .bool false, .int .i64 tick, .slice none 0 0, .int .u64 0, .int .u64 0, .int .u64 0, .int .u64 0, .int .u64 0, .int .u64 0]
theorem accept_now (g : Gt) (i : Int) (bs : List Int) : (g.accept i bs).1.p.now = g.p.now := by
 unfold Gt.accept
 split
 · rfl
 ·
  split
  · rfl
  · exact (psubmit_same _ _ _).2.2
theorem GDo_spec (g : Gt) (hi : g.Inv) (b : Nat) (H : HL) (h : GtAt g b H) (i : Int) (hid : g.p.in_ i → (g.p.tn i).t.ids < 1000000) (bs : List Int) (hu : u8ok bs) (hl : bs.length ≤ 1000000) (a : Option Addr) (cap : Nat) (ro : HL) (hro : RoSl 1 (u8s bs) a bs.length ro) :
  Ctr Tryz.prog 30 [.pointer (some ⟨b, 0, none⟩), .int .i64 i, .slice a bs.length cap] [H] ro (fun v L' => ∃ H', v = rsV (g.accept i bs).2.1 (g.accept i bs).2.2 g.p.now ∧ L' = [H'] ∧ GtAt (g.accept i bs).1 b H') := by
 have hA := GAccept_spec g hi b H h i hid bs hu hl a cap ro hro
 have hnw := accept_now g i bs
 generalize g.accept i bs = out at *
 refine Ctr.enter (n := 27) [.cell 6 59] [(0, _), (1, _), (2, _)] Tryz.func30 rfl rfl rfl (lb rfl) Tryz.call30 ⟨rfl, rfl, rfl, trivial⟩ ?_
 intro cx fin fin0
 refine aG ?_
 repeat (first | refine gx ?_ | refine gN fun _ => ?_ | refine gB fun _ => ?_ | fail)
 refine aC (o := hA) (h := ?_) (hro := RoIn.same)
 rintro _ _ ⟨H2, rfl, rfl, bx, Hx, rfl, ha⟩
 refine aG ?_
 have ha2 := ha
 obtain ⟨bp, ep, al, n, cl, Hp, Z, rfl, hp⟩ := ha2.pool
 have hN := PNow_spec out.1.p bp Hp hp
 rw [hnw] at hN
 refine spl4g rfl ?_
 refine aG ?_
 repeat (first | refine gx ?_ | refine gN fun _ => ?_ | refine gB fun _ => ?_ | fail)
 refine aC (o := hN) (h := ?_) (hro := RoIn.own 2 rfl)
 rintro _ _ ⟨rfl, rfl⟩
 refine aG ?_
 refine aBu (ps := [_, _, _]) ?_
 repeat (first | refine gx ?_ | refine gN fun _ => ?_ | refine gB fun _ => ?_ | fail)
 refine W.groupV [0, 0, 0, 0] rfl ?_
 refine W.ret (fin _ _ (FinOk.first 1 (aRc .nil) rfl ?_))
 exact ⟨_, rfl, rfl, bx, _, rfl, ha⟩
theorem GtAt.pool {g : Gt} {b : Nat} {H : HL} (h : GtAt g b H) : ∃ (bx bp : Nat) (ep : Int) (al : Option Addr) (n cl : Nat) (Hp Z : HL), H = [(b, Obj.cells (List.toArray [.pointer (some ⟨bx, 0, none⟩)]) 138 (0, 0))] ++ ([(bx, Obj.cells (List.toArray (inCells bp ep al n cl)) 136 (0, 0))] ++ (Hp ++ Z)) ∧ PlAt g.p bp Hp := by
 obtain ⟨bx, Hx, rfl, ha⟩ := h
 obtain ⟨bp, ep, al, n, cl, Hp, Z, rfl, hp⟩ := ha.pool
 exact ⟨bx, bp, ep, al, n, cl, Hp, Z, rfl, hp⟩
end Go.Proofs.YtfpghdcjdnifcaaGreat
namespace Go.Proofs.YtfpghdcjdnifcaaGreat
open Go Go.Sl Go.IntWalk
set_option maxHeartbeats 8000000
set_option maxRecDepth 20000
set_option linter.unusedVariables false
theorem RefUint_spec (x : Nat) (hx : x < 18446744073709551616) : Ctr Tryz.prog 137 [.int .u64 (x : Int)] [] [] (fun v L' => ∃ a c H, v = .slice a (le8 (x : Int)).length c ∧ L' = [H] ∧ Own 1 5 (u8s (le8 (x : Int))) a (le8 (x : Int)).length c H) := by
 rw [le8_chk]
 refine Ctr.enter (n := 18) [.tmp 2] [(0, _)] Tryz.func137 rfl rfl rfl (lb rfl) Tryz.call137 ⟨rfl, trivial⟩ ?_
 intro cx fin fin0
 refine aG ?_
 repeat (first | refine gx ?_ | refine gN fun _ => ?_ | refine gB fun _ => ?_ | fail)
 refine W.nilChunk ?_
 refine aLp (fun k ρ1 L1 => ∃ (j y : Nat) (a : Option Addr) (c : Nat) (H : HL), j ≤ 8 ∧ k = 8 - j ∧ y = x / 256 ^ j ∧ Own 1 5 (u8s (chk x j)) a j c H ∧ ρ1 = [(4, .int .i64 (j : Int)), (3, .slice a j c), (0, .int .u64 (y : Int))] ∧ L1 = [H]) (o := ⟨0, x, none, 0, [], by decide, rfl, by simp, Own.nil 1 _, rfl, rfl⟩) (h := ?_)
 rintro k ρ1 L1 ⟨j, y, a, c, H, hj, rfl, rfl, how, rfl, rfl⟩
 refine aG ?_
 by_cases hlt : j < 8
 ·
  have hz : (j : Int) < 8 := by omega
  have e1 : ((x / 256 ^ j : Nat) : Int).tmod 256 = ((x / 256 ^ j % 256 : Nat) : Int) := by rfl
  have e2 : IntKind.u64.wrap (((x / 256 ^ j : Nat) : Int).tdiv 256) = ((x / 256 ^ (j + 1) : Nat) : Int) := by
   have h1 : ((x / 256 ^ j : Nat) : Int).tdiv 256 = ((x / 256 ^ j / 256 : Nat) : Int) := rfl
   have h2 : x / 256 ^ j / 256 = x / 256 ^ (j + 1) := by rw [Nat.div_div_eq_div_mul, Nat.pow_succ]
   have h3 : x / 256 ^ (j + 1) ≤ x := Nat.div_le_self _ _
   rw [h1, h2, IntKind.wrap_u64]
   generalize x / 256 ^ (j + 1) = y at *
   omega
  repeat (first | refine gh hz ?_ | refine gN fun _ => ?_ | refine gB fun _ => ?_ | fail)
  refine aV (OpVal.rem rfl rfl (by decide) e1) ?_
  refine aV (OpVal.conv tab_ok rfl rfl rfl (u8n (show x / 256 ^ j % 256 < 256 by omega))) ?_
  refine aSl (ps := [_]) ?_
  intro bt
  refine aG ?_
  refine aAp (how) ?_
  rintro _ _ ⟨_, _, _, rfl, rfl, ho⟩
  refine aG ?_
  have e3 : u8s (chk x j) ++ [.int .u8 ((x / 256 ^ j % 256 : Nat) : Int)] = u8s (chk x (j + 1)) := by
   rw [show chk x (j + 1) = chk x j ++ [((x / 256 ^ j % 256 : Nat) : Int)] from rfl, u8s_append]
   rfl
  rw [e3] at ho
  repeat (first | refine gx ?_ | refine gN fun _ => ?_ | refine gB fun _ => ?_ | fail)
  refine aV (OpVal.quo rfl rfl (by decide) e2) ?_
  repeat (first | refine gh hz ?_ | refine gN fun _ => ?_ | refine gB fun _ => ?_ | fail)
  refine W.order [0] rfl ?_
  refine aR (o := ⟨8 - (j + 1), by omega, j + 1, _, _, _, _, by omega, rfl, rfl, ho, rfl, rfl⟩)
 ·
  obtain rfl : j = 8 := by omega
  repeat (first | refine gx ?_ | refine gN fun _ => ?_ | refine gB fun _ => ?_ | fail)
  refine W.ret (fin _ _ (FinOk.first 1 (.tmp rfl .nil) rfl ?_))
  exact ⟨_, _, _, rfl, rfl, how⟩
theorem RefInt_spec (x : Int) (hx : i64s x) : Ctr Tryz.prog 76 [.int .i64 x] [] [] (fun v L' => ∃ a c H, v = .slice a (le8 x).length c ∧ L' = [H] ∧ Own 1 5 (u8s (le8 x)) a (le8 x).length c H) := by
 obtain ⟨u, e1, hu, e2⟩ := u64_of hx
 have hU := RefUint_spec u hu
 rw [e2] at hU
 refine Ctr.enter (n := 6) [.tmp 2] [(0, _)] Tryz.func76 rfl rfl rfl (lb rfl) Tryz.call76 ⟨rfl, trivial⟩ ?_
 intro cx fin fin0
 refine aG ?_
 repeat (first | refine gx ?_ | refine gN fun _ => ?_ | refine gB fun _ => ?_ | fail)
 refine aV (OpVal.conv tab_ok rfl rfl rfl e1) ?_
 refine aC (o := hU) (h := ?_)
 rintro _ _ ⟨a, c, H, rfl, rfl, ho⟩
 refine aG ?_
 repeat (first | refine gx ?_ | refine gN fun _ => ?_ | refine gB fun _ => ?_ | fail)
 refine W.ret (fin _ _ (FinOk.first 1 (.tmp rfl .nil) rfl ?_))
 exact ⟨_, _, _, rfl, rfl, ho⟩
theorem RefBytes_spec (bs : List Int) (hl : bs.length ≤ 1000000) (a : Option Addr) (cap : Nat) (ro : HL) (hro : RoSl 1 (u8s bs) a bs.length ro) :
  Ctr Tryz.prog 77 [.slice a bs.length cap] [] ro (fun v L' => ∃ a' c' H, v = .slice a' (le8 bs.length ++ bs).length c' ∧ L' = [H] ∧ Own 1 5 (u8s (le8 bs.length ++ bs)) a' (le8 bs.length ++ bs).length c' H) := by
 have hI := RefInt_spec bs.length ⟨by omega, by omega⟩
 have h8 := le8_len (bs.length : Int)
 refine Ctr.enter (n := 8) [.tmp 2] [(0, _)] Tryz.func77 rfl rfl rfl (lb rfl) Tryz.call77 ⟨rfl, trivial⟩ ?_
 intro cx fin fin0
 refine aG ?_
 repeat (first | refine gx ?_ | refine gN fun _ => ?_ | refine gB fun _ => ?_ | fail)
 refine aC (o := hI) (h := ?_)
 rintro _ _ ⟨a1, c1, H1, rfl, rfl, ho1⟩
 refine aG ?_
 repeat (first | refine gx ?_ | refine gN fun _ => ?_ | refine gB fun _ => ?_ | fail)
 refine aPr (appU8 tab_ok rfl rfl rfl ho1 (by intro p hp; simp [hp]) rfl hro (fun q hq => .inr hq) (by omega) (by omega)) ?_
 rintro _ _ ⟨a2, c2, H2, rfl, rfl, ho2⟩
 refine aG ?_
 repeat (first | refine gx ?_ | refine gN fun _ => ?_ | refine gB fun _ => ?_ | fail)
 refine W.ret (fin _ _ (FinOk.first 1 (.tmp rfl .nil) rfl ?_))
 exact ⟨_, _, _, rfl, rfl, ho2⟩
theorem ReqBytes_spec (c : Int × Int) (q : Rq) (hq : Rq.I c q) (hl : q.data.length ≤ 1000000) (a : Option Addr) (cap : Nat) (ro : HL) (hro : RoSl 1 (u8s q.data) a q.data.length ro) :
  Ctr Tryz.prog 31 [capV c, q.v a cap] [] ro (fun v L' => ∃ a' c' H, v = .slice a' (reqBytes c q).length c' ∧ L' = [H] ∧ Own 1 5 (u8s (reqBytes c q)) a' (reqBytes c q).length c' H) := by
 have hB := RefBytes_spec q.data hl a cap ro hro
 obtain ⟨x1, x2⟩ := c
 obtain ⟨qo, qp, qf, ql, qd⟩ := q
 have hI : ∀ j (h : j < 6), ∃ x : Int, i64s x ∧ ([.int .i64 x1, .int .i64 x2, .int .i64 qo, .int .i64 qp, .int .i64 qf, .int .i64 ql] : List Value)[0 + j * 1]? = some (.int .i64 x) ∧ ([x1, x2, qo, qp, qf, ql].take (j + 1)) = ([x1, x2, qo, qp, qf, ql].take j) ++ [x] := by
  obtain ⟨h1, h2, h3, h4, h5, h6⟩ := hq
  intro j hj
  have hj6 : j = 0 ∨ j = 1 ∨ j = 2 ∨ j = 3 ∨ j = 4 ∨ j = 5 := by omega
  rcases hj6 with rfl | rfl | rfl | rfl | rfl | rfl
  · exact ⟨_, h1, rfl, rfl⟩
  · exact ⟨_, h2, rfl, rfl⟩
  · exact ⟨_, h3, rfl, rfl⟩
  · exact ⟨_, h4, rfl, rfl⟩
  · exact ⟨_, h5, rfl, rfl⟩
  · exact ⟨_, h6, rfl, rfl⟩
 unfold reqBytes
 simp only [capV, Rq.v] at *
 refine Ctr.enter (n := 37) [.tmp 4] [(0, _), (1, _)] Tryz.func31 rfl rfl rfl (lb rfl) Tryz.call31 ⟨rfl, rfl, trivial⟩ ?_
 intro cx fin fin0
 refine aG ?_
 repeat (first | refine gx ?_ | refine gN fun _ => ?_ | refine gB fun _ => ?_ | fail)
 rename_i b3 b2
 refine aSl (ps := [_, _, _, _, _, _]) ?_
 intro bt
 refine aG ?_
 repeat (first | refine gx ?_ | refine gN fun _ => ?_ | refine gB fun _ => ?_ | fail)
 refine W.nilChunk ?_
 refine aLp (fun k ρ1 L1 => ∃ (j : Nat) (cs : List Int) (a1 : Option Addr) (c1 : Nat) (H1 : HL), j ≤ 6 ∧ k = 6 - j ∧ cs = les ([x1, x2, qo, qp, qf, ql].take j) ∧ Own 1 5 (u8s cs) a1 cs.length c1 H1 ∧ ρ1 = [(7, .int .i64 (j : Int)), (6, .slice a1 cs.length c1), (5, .slice (some ⟨bt, 0, none⟩) 6 6), (3, .pointer (some ⟨b2, 0, none⟩))] ∧ L1 = [H1, [(bt, .cells #[.int .i64 x1, .int .i64 x2, .int .i64 qo, .int .i64 qp, .int .i64 qf, .int .i64 ql] 3 (0, 0))], [(b2, .cells #[.int .i64 qo, .int .i64 qp, .int .i64 qf, .int .i64 ql, .slice a qd.length cap] 63 (0, 0))]]) (o := ⟨0, [], none, 0, [], by decide, rfl, rfl, Own.nil 1 _, rfl, rfl⟩) (h := ?_)
 rintro k ρ1 L1 ⟨j, cs, a1, c1, H1, hj, rfl, hcs, how, rfl, rfl⟩
 refine aG ?_
 by_cases hlt : j < 6
 ·
  have hz : (j : Int) < 6 := by omega
  obtain ⟨x, hx, l0, hnx⟩ := hI j hlt
  have hR := RefInt_spec x hx
  have hcl : cs.length ≤ 1000 := by rw [hcs, les_len, List.length_take]; simp; omega
  have h8 := le8_len x
  have e3 : cs ++ le8 x = les ([x1, x2, qo, qp, qf, ql].take (j + 1)) := by rw [hnx, les_append, hcs]; simp [les]
  repeat (first | refine gh hz ?_ | refine gN fun _ => ?_ | refine gB fun _ => ?_ | fail)
  refine aV (OpVal.ixSl tab_ok rfl rfl rfl rfl rfl hlt) ?_
  refine aV (OpVal.load tab_ok rfl (at_own 1 rfl) l0) ?_
  repeat (first | refine gx ?_ | refine gN fun _ => ?_ | refine gB fun _ => ?_ | fail)
  refine aC (o := hR) (h := ?_)
  rintro _ _ ⟨a2, c2, H2, rfl, rfl, ho2⟩
  refine aG ?_
  refine aPr (appU8 tab_ok rfl rfl rfl how (by intro p hp; simp [hp]) rfl (Own.roSl ho2) (fun q hq => .inl (by simp [hq])) (by omega) (by omega)) ?_
  rintro _ _ ⟨a3, c3, H3, rfl, rfl, ho3⟩
  refine aG ?_
  rw [e3] at ho3
  rw [e3]
  repeat (first | refine gh hz ?_ | refine gN fun _ => ?_ | refine gB fun _ => ?_ | fail)
  refine W.order [0, 1, 1] rfl ?_
  refine aR (o := ⟨6 - (j + 1), by omega, j + 1, _, _, _, _, by omega, rfl, rfl, ho3, rfl, rfl⟩)
 ·
  obtain rfl : j = 6 := by omega
  have hcl : cs.length = 48 := by rw [hcs]; rfl
  have h8 := le8_len (qd.length : Int)
  repeat (first | refine gx ?_ | refine gN fun _ => ?_ | refine gB fun _ => ?_ | fail)
  refine aC (o := hB) (h := ?_) (hro := RoIn.same)
  rintro _ _ ⟨a2, c2, H2, rfl, rfl, ho2⟩
  refine aG ?_
  refine aPr (appU8 tab_ok rfl rfl rfl how (by intro p hp; simp [hp]) rfl (Own.roSl ho2) (fun q hq => .inl (by simp [hq])) (by simp only [List.length_append]; omega) (by simp only [List.length_append]; omega)) ?_
  rintro _ _ ⟨a3, c3, H3, rfl, rfl, ho3⟩
  refine aG ?_
  subst hcs
  repeat (first | refine gx ?_ | refine gN fun _ => ?_ | refine gB fun _ => ?_ | fail)
  refine W.ret (fin _ _ (FinOk.first 1 (.tmp rfl .nil) rfl ?_))
  exact ⟨_, _, _, rfl, rfl, ho3⟩
def CfOut (c : Cf) (v : Value) (L' : List HL) : Prop := ∃ a cap H, v = c.v a cap ∧ L' = [H] ∧ Own 3 92 (cps c.ps) a c.ps.length cap H
end Go.Proofs.YtfpghdcjdnifcaaGreat
namespace Go.Proofs.YtfpghdcjdnifcaaGreat
open Go Go.Sl Go.IntWalk
set_option maxHeartbeats 8000000
set_option maxRecDepth 20000
set_option linter.unusedVariables false
theorem first_submit {d : Nat} (hd : 1 ≤ d) {n : Nat} {pages : Int} {q : Rq} (hq : rcheck q pages = 0) (tick : Int) : ((Tn.new n pages).submit d q tick).2 = (1, 0) := by
 unfold Tn.submit
 rw [if_neg (by show ¬ rcheck q pages ≠ 0; rw [hq]; simp), if_neg (by show ¬ d ≤ 0; omega)]
 rfl
theorem plain_check {k pages : Int} (h : 1 ≤ k ∧ k ≤ 8) (hp : 1 ≤ pages) : rcheck ⟨k, 0, 0, 0, []⟩ pages = 0 := by
 have hk : k = 1 ∨ k = 2 ∨ k = 3 ∨ k = 4 ∨ k = 5 ∨ k = 6 ∨ k = 7 ∨ k = 8 := by omega
 unfold rcheck
 rw [if_neg, if_neg, if_neg]
 · simp
 · simp; omega
 · rcases hk with rfl | rfl | rfl | rfl | rfl | rfl | rfl | rfl <;> decide
def dhas (s n : Int) : Bool := (n % 2 ≤ s % 2) && (n / 2 % 2 ≤ s / 2 % 2) && (n / 4 % 2 ≤ s / 4 % 2) && (n / 8 % 2 ≤ s / 8 % 2)
theorem rhas_dhas {s n : Int} (hs : 0 ≤ s ∧ s < 16) (hn : 0 ≤ n ∧ n < 16) : rhas s n = dhas s n := by
 obtain ⟨a, rfl⟩ := Int.eq_ofNat_of_zero_le hs.1
 obtain ⟨b, rfl⟩ := Int.eq_ofNat_of_zero_le hn.1
 have h := rhas_table ⟨a, by omega⟩ ⟨b, by omega⟩
 have e : dhas (a : Int) (b : Int) = ((b % 2 ≤ a % 2) && (b / 2 % 2 ≤ a / 2 % 2) && (b / 4 % 2 ≤ a / 4 % 2) && (b / 8 % 2 ≤ a / 8 % 2) : Bool) := by
  unfold dhas
  congr 1
  ·
   congr 1
   ·
    congr 1
    · exact decide_eq_decide.2 (by omega)
    · exact decide_eq_decide.2 (by omega)
   · exact decide_eq_decide.2 (by omega)
  · exact decide_eq_decide.2 (by omega)
 rw [e]
 exact h
theorem fresh_mint {e s : Int} (hs : 0 ≤ s ∧ s < 16) : (Tb.new e).mint (0, e * 1048576) s = ((Tb.new e).give 1 s, (1, e * 1048576 + 1), 0) := by
 have hm : ((0 : Int), e * 1048576) ∈ (Tb.new e).all := by rw [Tb.new_all]; exact List.mem_singleton.2 rfl
 have ho : (Tb.new e).own 0 = 15 := rfl
 have hc : ∀ n : Int, 0 ≤ n ∧ n < 16 → (Tb.new e).check (0, e * 1048576) n = 0 := by
  intro n hn
  unfold Tb.check
  rw [if_pos hm, ho, rhas_dhas (by decide) hn, if_pos]
  unfold dhas
  simp only [Bool.and_eq_true, decide_eq_true_eq]
  omega
 unfold Tb.mint
 rw [if_neg (by rw [hc 8 (by decide)]; simp), if_neg (by simp [hs]), if_neg (by rw [hc s hs]; simp)]
 rfl
theorem minted_check {e s n : Int} : ((Tb.new e).give 1 s).check (1, e * 1048576 + 1) n = if rhas s n then 0 else 11 := by
 have hm : ((1 : Int), e * 1048576 + 1) ∈ ((Tb.new e).give 1 s).all := by
  refine mem_alls.2 ⟨1, by show 1 < 8; decide, rfl, ?_⟩
  rfl
 unfold Tb.check
 rw [if_pos hm]
 rfl
end Go.Proofs.YtfpghdcjdnifcaaGreat
namespace Go.Proofs.YtfpghdcjdnifcaaGreat
open Go Go.Sl Go.IntWalk
set_option maxHeartbeats 8000000
set_option maxRecDepth 20000
set_option linter.unusedVariables false
def cf2 : Cf := ⟨3, 2, 12, [⟨1, 0, 2⟩, ⟨2, 5, 3⟩]⟩
theorem cf2_ok : cf2.Ok := by
 refine ⟨by decide, by decide, by decide, by decide, fun x hx => ?_, ?_, by decide⟩
 ·
  simp only [cf2, List.mem_cons, List.not_mem_nil, or_false] at hx
  rcases hx with rfl | rfl <;> (unfold Cp.Ok Cp.to cf2; decide)
 ·
  unfold cf2
  simp only [List.pairwise_cons, List.mem_cons, List.not_mem_nil, or_false, forall_eq, false_imp_iff, implies_true, List.Pairwise.nil, and_true]
  unfold Apart Cp.to
  decide
theorem cf2_in : cf2.In := by
 refine ⟨⟨by decide, by decide⟩, ⟨by decide, by decide⟩, ⟨by decide, by decide⟩, fun x hx => ?_⟩
 simp only [cf2, List.mem_cons, List.not_mem_nil, or_false] at hx
 rcases hx with rfl | rfl <;> exact ⟨⟨by decide, by decide⟩, ⟨by decide, by decide⟩, ⟨by decide, by decide⟩⟩
def g2 : Gt := Gt.new cf2 [] []
def rq0 (k : Int) : Rq := ⟨k, 0, 0, 0, []⟩
theorem g2_bad : (g2.accept 1 (reqBytes (1, 5) (rq0 1))).2 = (0, 10) := by kernel_rfl
theorem g2_badp : (g2.accept 1 (reqBytes (1, 5) (rq0 1))).1 = g2 := by
 unfold Gt.accept
 rw [if_neg (by decide), if_pos (by rw [show g2.let_ 1 (reqBytes (1, 5) (rq0 1)) = 10 from by kernel_rfl]; decide)]
theorem g2_good : (g2.accept 1 (reqBytes (0, 1048576) (rq0 1))).2 = (1, 0) := by kernel_rfl
theorem g2_root : g2.root 1 = ((0, 1048576), 0) := by kernel_rfl
theorem reqBytes_ok (c : Int × Int) {q : Rq} (h : u8ok q.data) : u8ok (reqBytes c q) := fun x hx => by
 rcases List.mem_append.1 hx with h1 | h1
 · exact les_ok _ x h1
 ·
  rcases List.mem_append.1 h1 with h2 | h2
  · exact le8_ok _ x h2
  · exact h x h2
theorem reqBytes_len (c : Int × Int) (q : Rq) : (reqBytes c q).length = 56 + q.data.length := by
 unfold reqBytes
 rw [List.length_append, List.length_append, les_len, le8_len]
 simp
 omega
theorem cfOwn {c : Cf} {a : Option Addr} {cap : Nat} {H : HL} (h : Own 3 92 (cps c.ps) a c.ps.length cap H) : c.ps.length ≤ cap ∧ RoSl 3 (cps c.ps) a c.ps.length H := by
 refine ⟨?_, Own.roSl h⟩
 rcases h.2 with ⟨_, h1, h2, _⟩ | ⟨_, _, _, _, h1, _⟩ <;> omega
theorem GOpenOk_spec (c : Cf) (hok : c.Ok) (hin : c.In) (a : Option Addr) (cap : Nat) (ro : HL) (hcap : c.ps.length ≤ cap) (hro : RoSl 3 (cps c.ps) a c.ps.length ro) :
  Ctr Tryz.prog 17 [c.v a cap, .slice none 0 0, .slice none 0 0] [] ro (fun v L' => ∃ b H, v = .tuple #[.pointer (some ⟨b, 0, none⟩), .int .i64 0] ∧ L' = [H] ∧ GtAt (Gt.new c [] []) b H) := by
 have hl := hok.len.2
 refine ((GOpen_spec c hin (by omega) a cap hcap ro hro [] [] none 0 [] BitsAt.nil none 0 [] BitsAt.nil).ro (ro1 := ro) (fun p hp => by simpa using hp)).post ?_
 rintro v L' (⟨h, -⟩ | ⟨-, b, H, h1, h2, h3⟩)
 · exact absurd hok h
 · exact ⟨b, H, h1, h2, h3⟩
theorem Two_spec : Ctr Tryz.prog 27 [] [] [] (CfOut cf2) := by
 refine Ctr.enter (n := 5) [.cell 0 24] [] Tryz.func27 rfl rfl rfl (lb rfl) Tryz.call27 trivial ?_
 intro cx fin fin0
 refine aG ?_
 repeat (first | refine gx ?_ | refine gN fun _ => ?_ | refine gB fun _ => ?_ | fail)
 refine aBu (ps := [_, _, _]) ?_
 repeat (first | refine gx ?_ | refine gN fun _ => ?_ | refine gB fun _ => ?_ | fail)
 refine aBu (ps := [_, _, _]) ?_
 repeat (first | refine gx ?_ | refine gN fun _ => ?_ | refine gB fun _ => ?_ | fail)
 refine aSl (ps := [_, _]) ?_
 intro bt
 refine aG ?_
 refine aBu (ps := [_, _, _, _]) ?_
 repeat (first | refine gx ?_ | refine gN fun _ => ?_ | refine gB fun _ => ?_ | fail)
 refine W.order [0, 0] rfl ?_
 refine W.ret (fin _ _ (FinOk.first 1 (aRc .nil) rfl ?_))
 exact ⟨_, _, _, rfl, rfl, Own.exact (cs := cps cf2.ps) bt rfl⟩
theorem g2_inv : g2.Inv := new_ginv cf2_ok cf2_in [] []
theorem nou8' : u8ok [] := fun b hb => by cases hb
theorem i64k (k : Int) (h : 0 ≤ k ∧ k ≤ 1048576) : i64s k := ⟨by omega, by omega⟩
theorem rqI (c : Int × Int) (hc : i64s c.1 ∧ i64s c.2) (k : Int) (hk : i64s k) : Rq.I c (rq0 k) := ⟨hc.1, hc.2, hk, i64k 0 (by decide), i64k 0 (by decide), i64k 0 (by decide)⟩
theorem GLives_spec : Ctr Tryz.prog 25 [] [] [] (fun v L' => v = .bool true ∧ L' = []) := by
 have hO := fun a cap ro hc hr => GOpenOk_spec cf2 cf2_ok cf2_in a cap ro hc hr
 have hg : g2 = Gt.new cf2 [] [] := rfl
 rw [← hg] at hO
 have hi := g2_inv
 have hR := fun b H h => GRoot_spec g2 hi b H h 1
 rw [g2_root] at hR
 have z1 : i64s 1 := i64k 1 (by decide)
 have hB1 := ReqBytes_spec (1, 5) (rq0 1) (rqI _ ⟨z1, i64k 5 (by decide)⟩ 1 z1) (by decide) none 0 [] ⟨rfl, .inl ⟨rfl, rfl⟩⟩
 have hB2 := ReqBytes_spec (0, 1048576) (rq0 1) (rqI _ ⟨i64k 0 (by decide), i64k 1048576 (by decide)⟩ 1 z1) (by decide) none 0 [] ⟨rfl, .inl ⟨rfl, rfl⟩⟩
 have hid : ∀ g : Gt, g = g2 → g.p.in_ 1 → (g.p.tn 1).t.ids < 1000000 := by rintro g rfl _; decide
 have hD1 := fun b H h a cap ro hro => GDo_spec g2 hi b H h 1 (hid g2 rfl) (reqBytes (1, 5) (rq0 1)) (reqBytes_ok _ nou8') (by rw [reqBytes_len]; decide) a cap ro hro
 have hD2 := fun b H h a cap ro hro => GDo_spec g2 hi b H h 1 (hid g2 rfl) (reqBytes (0, 1048576) (rq0 1)) (reqBytes_ok _ nou8') (by rw [reqBytes_len]; decide) a cap ro hro
 rw [g2_bad, g2_badp] at hD1
 rw [g2_good] at hD2
 generalize (g2.accept 1 (reqBytes (0, 1048576) (rq0 1))).1 = g3 at *
 have hnow : g2.p.now = 0 := rfl
 rw [hnow] at hD1 hD2
 generalize reqBytes (1, 5) (rq0 1) = bb1 at *
 generalize reqBytes (0, 1048576) (rq0 1) = bb2 at *
 simp only [capV, Rq.v, rq0] at *
 refine Ctr.enter (n := 55) [.tmp 0] [] Tryz.func25 rfl rfl rfl (lb rfl) Tryz.call25 trivial ?_
 intro cx fin fin0
 refine aG ?_
 repeat (first | refine gx ?_ | refine gN fun _ => ?_ | refine gB fun _ => ?_ | fail)
 refine aC (o := Two_spec) (h := ?_)
 rintro _ _ ⟨a, cap, H0, rfl, rfl, ho⟩
 refine aG ?_
 obtain ⟨ho1, ho2⟩ := cfOwn ho
 refine aC (o := hO a cap H0 ho1 ho2) (h := ?_) (hro := RoIn.own 0 rfl)
 rintro _ _ ⟨bg, Hg, rfl, rfl, hga⟩
 refine aG ?_
 repeat (first | refine gx ?_ | refine gN fun _ => ?_ | refine gB fun _ => ?_ | fail)
 refine aC (o := hR bg Hg hga) (h := ?_)
 rintro _ _ ⟨Hg, rfl, rfl, hga⟩
 refine aG ?_
 repeat (first | refine gx ?_ | refine gN fun _ => ?_ | refine gB fun _ => ?_ | fail)
 refine aBu (ps := [_, _]) ?_
 refine aBu (ps := [_]) ?_
 refine aC (o := hB1) (h := ?_)
 rintro _ _ ⟨a1, c1, H1, rfl, rfl, ho3⟩
 refine aG ?_
 refine aC (o := hD1 bg Hg hga a1 c1 H1 (Own.roSl ho3)) (h := ?_) (hro := RoIn.own 0 rfl)
 rintro _ _ ⟨Hg, rfl, rfl, hga⟩
 refine aG ?_
 repeat (first | refine gx ?_ | refine gN fun _ => ?_ | refine gB fun _ => ?_ | fail)
 refine aBu (ps := [_]) ?_
 refine aC (o := hB2) (h := ?_)
 rintro _ _ ⟨a2, c2, H2, rfl, rfl, ho4⟩
 refine aG ?_
 refine aC (o := hD2 bg Hg hga a2 c2 H2 (Own.roSl ho4)) (h := ?_) (hro := RoIn.own 0 rfl)
 rintro _ _ ⟨Hg, rfl, rfl, hga⟩
 refine aG ?_
 repeat (first | refine gx ?_ | refine gN fun _ => ?_ | refine gB fun _ => ?_ | fail)
 refine W.order [] rfl ?_
 refine W.ret (fin _ _ (FinOk.first 0 (.tmp rfl .nil) rfl ?_))
 exact ⟨rfl, rfl⟩
end Go.Proofs.YtfpghdcjdnifcaaGreat
namespace Go.Proofs.YtfpghdcjdnifcaaGreat
open Go Go.Sl Go.IntWalk
set_option maxHeartbeats 8000000
set_option maxRecDepth 20000
set_option linter.unusedVariables false
theorem Cf.Ok.in_ {c : Cf} (h : c.Ok) : c.In := by
 have h1 := h.fr
 have h2 := h.dp
 have h3 := h.se
 refine ⟨⟨by omega, by omega⟩, ⟨by omega, by omega⟩, ⟨by omega, by omega⟩, fun x hx => ?_⟩
 have hx := h.ps x hx
 unfold Cp.Ok Cp.to at hx
 exact ⟨⟨by omega, by omega⟩, ⟨by omega, by omega⟩, ⟨by omega, by omega⟩⟩
theorem new_why (c : Cf) (fs ks : List (List Bool)) (k : Int) : (Gt.new c fs ks).why k = if 0 ≤ k ∧ k < (c.ps.length : Int) then 0 else 1 := by
 have e : (Gt.new c fs ks).p.l.length = c.ps.length := new_len c fs ks
 have e2 : (Gt.new c fs ks).p.in_ k ↔ 0 ≤ k ∧ k < (c.ps.length : Int) := by unfold Pl.in_; rw [e]
 unfold Gt.why
 by_cases h : 0 ≤ k ∧ k < (c.ps.length : Int)
 · rw [if_neg (fun h2 => h2 (e2.2 h)), if_neg (fun h2 => h2 rfl), if_pos h]
 · rw [if_pos (fun h2 => h (e2.1 h2)), if_neg h]
theorem new_tab (c : Cf) (fs ks : List (List Bool)) (k : Int) (h : 0 ≤ k ∧ k < (c.ps.length : Int)) : (Gt.new c fs ks).tab k = Tb.new 1 := by
 unfold Gt.tab
 have e : (Gt.new c fs ks).tabs = List.replicate c.ps.length (Tb.new 1) := rfl
 rw [e, List.getD_eq_getElem?_getD, List.getElem?_replicate, if_pos (by omega)]
 rfl
theorem new_root (c : Cf) (fs ks : List (List Bool)) (k : Int) : (Gt.new c fs ks).root k = if 0 ≤ k ∧ k < (c.ps.length : Int) then ((0, 1048576), 0) else ((0, 0), 1) := by
 unfold Gt.root
 rw [new_why]
 by_cases h : 0 ≤ k ∧ k < (c.ps.length : Int)
 · rw [if_pos h, if_neg (fun h2 => h2 rfl), new_tab c fs ks k h, if_pos h]; rfl
 · rw [if_neg h, if_pos (by decide), if_neg h]
end Go.Proofs.YtfpghdcjdnifcaaGreat
namespace Go.Sl
set_option linter.unusedVariables false
set_option maxHeartbeats 1000000
open Go
section
variable {P : Program} {R : HL} {cx : Cx} {ops : Array Oper} {E F : Nat → Bool} {Kf : Act → List HL → Prop}
def drawT (ops : Array Oper) (N : Nat) : Bool :=
 low ops && Region.noSelect ops && decide (N ≤ ops.size) &&
 ((List.range ops.size).all fun i => decide (i < N) || (List.range N).all fun j => waits ops i j) &&
 Region.seqB .any ops (ops.size - N) N (((List.replicate N true) ++ (List.replicate (ops.size - N) false)).toArray)
theorem anyI {N : Nat} {Q : Exit → Act → World → Prop} {Inv : List Nat → Act → List HL → Prop} (hB : drawT ops N = true)
  (hK : ∀ a Y w, Inv [] a Y → St cx.w0 cx.S0 R Y w → wpList P ops Q (ops.toList.drop N) a w)
  (hst : ∀ (A : List Nat) (i : Nat) (B : List Nat) (a : Act) (Y : List HL) (w : World) (oi : Oper), Inv (A ++ i :: B) a Y → ops[i]? = some oi → (∀ j ∈ A ++ B, waits ops i j = false) → St cx.w0 cx.S0 R Y w → (∃ v, QVal P R cx ops oi v a ∧ Inv (A ++ B) (a.put oi.dst v) Y) ∨ eOp P R cx ops true oi (Inv (A ++ B)) a Y) :
  ∀ (m : Nat) (rem : List Nat) (listed : Array Bool) (a : Act) (Y : List HL) (w : World), rem.length = m → Good ops N rem listed →
   St cx.w0 cx.S0 R Y w → Inv rem a Y → wpAny P .any ops Q (m + (ops.size - N)) listed a w := by
 simp only [drawT, Bool.and_eq_true, decide_eq_true_eq] at hB
 obtain ⟨⟨⟨⟨hlow, hns⟩, hN⟩, htail⟩, hseq⟩ := hB
 have hsel := Region.noSelect_spec hns
 intro m
 induction m with
 | zero =>
  intro rem listed a Y w hm hg hs h
  have hr : rem = [] := List.eq_nil_of_length_eq_zero hm
  subst hr
  have hl : listed = ((List.replicate N true) ++ (List.replicate (ops.size - N) false)).toArray := by
   apply Array.ext
   · simp [hg.sz]; omega
   ·
    intro i h1 h2
    by_cases hi : i < N
    ·
     have := (hg.un i hi)
     rw [getD_tf h1] at this
     simp only [List.not_mem_nil, iff_false, Bool.not_eq_false] at this
     simp [this, hi]
    ·
     have := hg.tl i (by omega) (by rw [← hg.sz]; exact h1)
     rw [getD_tf h1] at this
     simp only [this, List.getElem_toArray]
     rw [List.getElem_append_right (by simp; omega)]
     simp
  have hwl := hK a Y w h hs
  have hlen : (ops.toList.drop N).length = ops.size - N := by simp
  have := wpAny_of_seq (md := .any) (Q' := Q) (ops.toList.drop N) N listed _ w (fun j => by simp [List.getElem?_drop]) (by rw [hlen, hl]; exact hseq) hwl
  rw [hlen] at this
  rw [Nat.zero_add]
  exact this
 | succ m ih =>
  intro rem listed a Y w hm hg hs h
  have hready : ∀ i, i ∈ Region.ready .any ops listed → i ∈ rem := by
   intro i hi
   obtain ⟨h1, o, ho, hdeps⟩ := mem_ready.1 hi
   have hisz := (Array.getElem?_eq_some_iff.1 ho).1
   by_cases hiN : i < N
   · exact (hg.un i hiN).1 h1
   ·
    exfalso
    obtain ⟨j, hj⟩ : ∃ j, j ∈ rem := by cases rem with | nil => simp at hm | cons x r => exact ⟨x, by simp⟩
    have hw := List.all_eq_true.1 htail i (by simpa using hisz)
    simp only [Bool.or_eq_true, decide_eq_true_eq] at hw
    have hw2 := List.all_eq_true.1 (hw.resolve_left hiN) j (by simpa using hg.lt j hj)
    have h3 := waits_listed hlow hg.down i j o ho hdeps hw2
    have h4 := (hg.un j (hg.lt j hj)).2 hj
    have hjs : j < listed.size := by have := hg.lt j hj; have := hg.sz; omega
    rw [getD_tf hjs] at h3 h4
    rw [h3] at h4; cases h4
  rw [show m + 1 + (ops.size - N) = (m + (ops.size - N)) + 1 from by omega]
  refine ⟨fun h0 => ?_, fun i hi => ?_⟩
  ·
   exfalso
   cases rem with
   | nil => simp at hm
   | cons i0 r =>
    have hi0N := hg.lt i0 (by simp)
    have hi0 : i0 < ops.size := by omega
    have : i0 ∈ Region.ready .any ops listed := by
     refine mem_ready.2 ⟨(hg.un i0 hi0N).2 (by simp), ops[i0], Array.getElem?_eq_getElem hi0, fun e he hb => ?_⟩
     have hl := List.all_eq_true.1 hlow i0 (by simpa using hi0)
     simp only [Array.getElem?_eq_getElem hi0] at hl
     have hl2 := Array.all_eq_true_iff_forall_mem.1 hl e he
     simp only [hb, Bool.not_true, Bool.false_or, decide_eq_true_eq] at hl2
     have hnot : e.on ∉ i0 :: r := by
      intro hm'
      rcases List.mem_cons.1 hm' with h' | h'
      · omega
      ·
       have := (List.pairwise_cons.1 hg.sorted).1 e.on h'
       omega
     have h5 := (hg.un e.on (by omega))
     have hes : e.on < listed.size := by rw [hg.sz]; omega
     rw [getD_tf hes] at h5 ⊢
     cases hx : listed[e.on] with
     | true => rfl
     | false => exact absurd (h5.1 hx) hnot
    rw [h0] at this; cases this
  ·
   obtain ⟨h1, oi, hoi, hdeps⟩ := mem_ready.1 hi
   obtain ⟨A, B, hAB⟩ := List.append_of_mem (hready i hi)
   have hiN := hg.lt i (hready i hi)
   have hsz : i < listed.size := by rw [hg.sz]; omega
   have hnd : rem.Nodup := hg.sorted.imp (fun h => by omega)
   have hnw : ∀ j ∈ A ++ B, waits ops i j = false := by
    intro j hj
    have hjr : j ∈ rem := by rw [hAB]; rcases List.mem_append.1 hj with h | h <;> simp [h]
    cases hp : waits ops i j with
    | false => rfl
    | true =>
     exfalso
     have h3 := waits_listed hlow hg.down i j oi hoi hdeps hp
     have h4 := (hg.un j (hg.lt j hjr)).2 hjr
     have hjs : j < listed.size := by have := hg.lt j hjr; have := hg.sz; omega
     rw [getD_tf hjs] at h3 h4
     rw [h3] at h4; cases h4
   have hg' : Good ops N (A ++ B) (listed.setIfInBounds i true) := by
    have hnd : rem.Nodup := hg.sorted.imp (fun h => by omega)
    refine ⟨by simp [hg.sz], ?_, ?_, ?_, ?_, ?_⟩
    ·
     have := hg.sorted
     rw [hAB] at this
     exact this.sublist (List.Sublist.append (List.Sublist.refl A) (List.sublist_cons_self i B))
    · intro j hj; exact hg.lt j (by rw [hAB]; rcases List.mem_append.1 hj with h | h <;> simp [h])
    ·
     intro j hjN
     have hjs : j < listed.size := by have := hg.sz; omega
     have h5 := hg.un j hjN
     rw [getD_tf hjs] at h5
     rw [getD_tf (by simpa using hjs), Array.getElem_setIfInBounds (by simpa using hjs)]
     by_cases hij : i = j
     ·
      subst hij
      rw [if_pos rfl]
      rw [hAB, List.nodup_append] at hnd
      simp only [Bool.true_eq_false, false_iff, List.mem_append, not_or]
      exact ⟨fun hm => hnd.2.2 i hm i (by simp) rfl, (List.nodup_cons.1 hnd.2.1).1⟩
     ·
      rw [if_neg hij, h5, hAB]
      simp only [List.mem_append, List.mem_cons]
      constructor
      ·
       rintro (h | h | h)
       · exact .inl h
       · exact absurd h.symm hij
       · exact .inr h
      ·
       rintro (h | h)
       · exact .inl h
       · exact .inr (.inr h)
    ·
     intro j hjN hjs
     have hjs' : j < listed.size := by rw [hg.sz]; exact hjs
     have := hg.tl j hjN hjs
     rw [getD_tf hjs'] at this
     rw [getD_tf (by simpa using hjs'), Array.getElem_setIfInBounds (by simpa using hjs'), if_neg (by omega)]
     exact this
    ·
     intro j o ho hlj e he hb
     have hjs : j < listed.size := by rw [hg.sz]; exact (Array.getElem?_eq_some_iff.1 ho).1
     have keep : listed.getD e.on false = true → (listed.setIfInBounds i true).getD e.on false = true := by
      intro hx
      by_cases hes : e.on < listed.size
      ·
       rw [getD_tf hes] at hx
       rw [getD_tf (by simpa using hes), Array.getElem_setIfInBounds (by simpa using hes)]
       split
       · rfl
       · exact hx
      ·
       simp only [Array.getD_eq_getD_getElem?, Array.getElem?_eq_none (Nat.le_of_not_lt hes)] at hx
       simp at hx
     rw [getD_tf (by simpa using hjs), Array.getElem_setIfInBounds (by simpa using hjs)] at hlj
     by_cases hij : i = j
     ·
      subst hij
      rw [hoi] at ho
      cases ho
      exact keep (hdeps e he hb)
     ·
      rw [if_neg hij] at hlj
      exact keep (hg.down j o ho (by rw [getD_tf hjs]; exact hlj) e he hb)
   have hlenAB : (A ++ B).length = m := by rw [hAB] at hm; simp at hm ⊢; omega
   have hnd : rem.Nodup := hg.sorted.imp (fun h => by omega)
   rw [hAB] at h
   unfold wpOp
   rw [hoi]
   rcases hst A i B a Y w oi h hoi hnw hs with ⟨v, hq, hS⟩ | he
   ·
    rcases hq with ⟨hw, hrun⟩ | ⟨hw, rfl⟩
    ·
     simp only [hw, if_true]
     refine .inl (qacts_wp (hrun Y w hs) ?_)
     rintro w' ⟨hs', hlf⟩
     exact ih (A ++ B) _ (a.put oi.dst v) Y w' hlenAB hg' hs' hS
    ·
     simp only [hw, Bool.false_eq_true, if_false]
     exact ih (A ++ B) _ (a.put oi.dst undef) Y w hlenAB hg' hs hS
   ·
    simp only [eOp] at he
    rcases he with ⟨hw, hact⟩ | ⟨hw, hS⟩
    ·
     simp only [hw, if_true]
     refine .inl (acts_wp (acts_mono ?_ (hact w hs)))
     rintro v w' ⟨Y', ⟨hs', hlf⟩, hS⟩
     exact ih (A ++ B) _ _ Y' w' hlenAB hg' hs' hS
    ·
     simp only [hw, Bool.false_eq_true, if_false]
     exact ih (A ++ B) _ _ Y w hlenAB hg' hs hS
theorem eOp.mono {e : Bool} {o : Oper} {K K' : Act → List HL → Prop} {a : Act} {Y : List HL} (hK : ∀ a Y, K a Y → K' a Y) (h : eOp P R cx ops e o K a Y) : eOp P R cx ops e o K' a Y := by
 cases e with
 | false =>
  obtain ⟨v, h1, h2⟩ := h
  exact ⟨v, h1, hK _ _ h2⟩
 | true =>
  simp only [eOp] at h ⊢
  rcases h with ⟨h1, h2⟩ | ⟨h1, h2⟩
  ·
   refine .inl ⟨h1, fun w hs => acts_mono ?_ (h2 w hs)⟩
   rintro v w' ⟨Y', hs', h3⟩
   exact ⟨Y', hs', hK _ _ h3⟩
  · exact .inr ⟨h1, hK _ _ h2⟩
def Rw (ops : Array Oper) (E : Nat → Bool) (i j : Nat) : Prop := waits ops i j = true ∨ ((∀ oj oi, ops[j]? = some oj → ops[i]? = some oi → oj.apart ops oi = true) ∧ (E i && E j) = false)
def Row2 (ops : Array Oper) (E : Nat → Bool) (A B : Nat) (l : List Nat) : Prop := l.Pairwise fun j i => Rw ops E i j ∨ (i = B ∧ j = A)
def Inv2 (P : Program) (R : HL) (cx : Cx) (ops : Array Oper) (E : Nat → Bool) (Kf : Act → List HL → Prop) (A B : Nat) (rem : List Nat) (a : Act) (Y : List HL) : Prop :=
 rem.Nodup ∧ ((∃ l : List Nat, l.Nodup ∧ (∀ x, x ∈ l ↔ x ∈ rem) ∧ (l.Pairwise fun j i => Rw ops E i j) ∧ SWr P R cx ops E (fun _ => false) Kf l a Y) ∨
 (∃ l1 l2 : List Nat, l1.Nodup ∧ (∀ x, x ∈ l1 ↔ x ∈ rem) ∧ Row2 ops E A B l1 ∧ SWr P R cx ops E (fun _ => false) Kf l1 a Y ∧ l2.Nodup ∧ (∀ x, x ∈ l2 ↔ x ∈ rem) ∧ Row2 ops E B A l2 ∧ SWr P R cx ops E (fun _ => false) Kf l2 a Y ∧ A ∈ rem ∧ B ∈ rem))
theorem erase_mem {X Z A B : List Nat} {i : Nat} (h1 : (X ++ i :: Z).Nodup) (h2 : (A ++ i :: B).Nodup) (h : ∀ x, x ∈ X ++ i :: Z ↔ x ∈ A ++ i :: B) : ∀ x, x ∈ X ++ Z ↔ x ∈ A ++ B := by
 intro x
 have n1 := List.nodup_append.1 h1
 have n2 := List.nodup_append.1 h2
 have m1 : i ∉ X ++ Z := fun hm => by
  rcases List.mem_append.1 hm with h | h
  · exact n1.2.2 i h i (by simp) rfl
  · exact (List.nodup_cons.1 n1.2.1).1 h
 have m2 : i ∉ A ++ B := fun hm => by
  rcases List.mem_append.1 hm with h | h
  · exact n2.2.2 i h i (by simp) rfl
  · exact (List.nodup_cons.1 n2.2.1).1 h
 by_cases hx : x = i
 · subst hx; exact ⟨fun h => absurd h m1, fun h => absurd h m2⟩
 ·
  have := h x
  simp only [List.mem_append, List.mem_cons, hx, false_or] at this ⊢
  exact this
theorem sub_erase {X Z : List Nat} {i : Nat} : List.Sublist (X ++ Z) (X ++ i :: Z) := List.Sublist.append (List.Sublist.refl X) (List.sublist_cons_self i Z)
theorem inv2_step (hsel : ∀ (j : Nat) (o : Oper) cs b, ops[j]? = some o → o.op ≠ .select cs b) {A B : Nat} (hAB : A ≠ B) (hEA : E A = true) (hEB : E B = true) (hoth : ∀ i, E i = true → i = A ∨ i = B ∨ (i ≠ A ∧ i ≠ B ∧ (waits ops i A = true ∨ waits ops i B = true)))
  (U : List Nat) (i : Nat) (V : List Nat) (a : Act) (Y : List HL) (w : World) (oi : Oper) (hI : Inv2 P R cx ops E Kf A B (U ++ i :: V) a Y) (hoi : ops[i]? = some oi) (hnw : ∀ j ∈ U ++ V, waits ops i j = false) (hs : St cx.w0 cx.S0 R Y w) :
  (∃ v, QVal P R cx ops oi v a ∧ Inv2 P R cx ops E Kf A B (U ++ V) (a.put oi.dst v) Y) ∨ eOp P R cx ops true oi (Inv2 P R cx ops E Kf A B (U ++ V)) a Y := by
 obtain ⟨hn, hI⟩ := hI
 have hn' : (U ++ V).Nodup := hn.sublist sub_erase
 have hmi : i ∈ U ++ i :: V := by simp
 rcases hI with ⟨l, h1, h2, h3, h4⟩ | ⟨l1, l2, a1, a2, a3, a4, b1, b2, b3, b4, hA, hB⟩
 ·
  obtain ⟨X, Z, rfl⟩ := List.append_of_mem ((h2 i).2 hmi)
  have hm := erase_mem h1 hn h2
  have hpr : ∀ j ∈ X, (∀ oj, ops[j]? = some oj → oj.apart ops oi = true) ∧ (E i && E j) = false := by
   intro j hj
   rcases (List.pairwise_append.1 h3).2.2 j hj i (by simp) with h | ⟨h, h'⟩
   · rw [hnw j ((hm j).1 (by simp [hj]))] at h; cases h
   · exact ⟨fun oj ho => h oj oi ho hoi, h'⟩
  cases hE : E i with
  | false =>
   obtain ⟨v, hq, hS⟩ := extQ hsel hoi rfl hE X Z a Y w (fun j hj _ => (hpr j hj).1) hs h4
   exact .inl ⟨v, hq, hn', .inl ⟨X ++ Z, h1.sublist sub_erase, hm, h3.sublist sub_erase, hS⟩⟩
  | true =>
   have he := extE hsel hoi rfl hE X Z a Y (fun j hj _ => by have := hpr j hj; rw [hE, Bool.true_and] at this; exact ⟨this.2, this.1⟩) h4
   exact .inr (he.mono fun a' Y' hS => ⟨hn', .inl ⟨X ++ Z, h1.sublist sub_erase, hm, h3.sublist sub_erase, hS⟩⟩)
 ·
  obtain ⟨X, Z, rfl⟩ := List.append_of_mem ((a2 i).2 hmi)
  obtain ⟨X', Z', rfl⟩ := List.append_of_mem ((b2 i).2 hmi)
  have hm := erase_mem a1 hn a2
  have hm' := erase_mem b1 hn b2
  have hne : ∀ x, x ∈ U ++ i :: V → x ≠ i → x ∈ U ++ V := by
   intro x hx hxi
   simp only [List.mem_append, List.mem_cons, hxi, false_or] at hx ⊢
   exact hx
  cases hE : E i with
  | false =>
   have hiA : i ≠ A := fun h => by rw [h, hEA] at hE; cases hE
   have hiB : i ≠ B := fun h => by rw [h, hEB] at hE; cases hE
   have p1 : ∀ j ∈ X, ∀ oj, ops[j]? = some oj → oj.apart ops oi = true := by
    intro j hj
    rcases (List.pairwise_append.1 a3).2.2 j hj i (by simp) with (h | ⟨h, h'⟩) | ⟨h, -⟩
    · rw [hnw j ((hm j).1 (by simp [hj]))] at h; cases h
    · exact fun oj ho => h oj oi ho hoi
    · exact absurd h hiB
   have p2 : ∀ j ∈ X', ∀ oj, ops[j]? = some oj → oj.apart ops oi = true := by
    intro j hj
    rcases (List.pairwise_append.1 b3).2.2 j hj i (by simp) with (h | ⟨h, h'⟩) | ⟨h, -⟩
    · rw [hnw j ((hm' j).1 (by simp [hj]))] at h; cases h
    · exact fun oj ho => h oj oi ho hoi
    · exact absurd h hiA
   obtain ⟨v, hq, hS⟩ := extQ hsel hoi rfl hE X Z a Y w (fun j hj _ => p1 j hj) hs a4
   obtain ⟨v', hq', hS'⟩ := extQ hsel hoi rfl hE X' Z' a Y w (fun j hj _ => p2 j hj) hs b4
   obtain rfl := hq.unique hq' hs
   exact .inl ⟨v, hq, hn', .inr ⟨X ++ Z, X' ++ Z', a1.sublist sub_erase, hm, a3.sublist sub_erase, hS, b1.sublist sub_erase, hm', b3.sublist sub_erase, hS', hne A hA (Ne.symm hiA), hne B hB (Ne.symm hiB)⟩⟩
  | true =>
   rcases hoth i hE with rfl | rfl | ⟨n1, n2, h | h⟩
   ·
    have hp : ∀ j ∈ X, E j = false ∧ ∀ oj, ops[j]? = some oj → oj.apart ops oi = true := by
     intro j hj
     rcases (List.pairwise_append.1 a3).2.2 j hj i (by simp) with (h | ⟨h, h'⟩) | ⟨h, -⟩
     · rw [hnw j ((hm j).1 (by simp [hj]))] at h; cases h
     · rw [hE, Bool.true_and] at h'; exact ⟨h', fun oj ho => h oj oi ho hoi⟩
     · exact absurd h hAB
    have he := extE hsel hoi rfl hE X Z a Y (fun j hj _ => hp j hj) a4
    have hni : ∀ x ∈ X ++ Z, x ≠ i := fun x hx h => by
     rw [h] at hx
     have n1 := List.nodup_append.1 a1
     rcases List.mem_append.1 hx with h | h
     · exact n1.2.2 i h i (by simp) rfl
     · exact (List.nodup_cons.1 n1.2.1).1 h
    have h3 : (X ++ Z).Pairwise fun j i => Rw ops E i j := (a3.sublist sub_erase).imp_of_mem fun hx hy h => by
     rcases h with h | ⟨-, h⟩
     · exact h
     · exact absurd h (hni _ hx)
    exact .inr (he.mono fun a' Y' hS => ⟨hn', .inl ⟨X ++ Z, a1.sublist sub_erase, hm, h3, hS⟩⟩)
   ·
    have hp : ∀ j ∈ X', E j = false ∧ ∀ oj, ops[j]? = some oj → oj.apart ops oi = true := by
     intro j hj
     rcases (List.pairwise_append.1 b3).2.2 j hj i (by simp) with (h | ⟨h, h'⟩) | ⟨h, -⟩
     · rw [hnw j ((hm' j).1 (by simp [hj]))] at h; cases h
     · rw [hE, Bool.true_and] at h'; exact ⟨h', fun oj ho => h oj oi ho hoi⟩
     · exact absurd h.symm hAB
    have he := extE hsel hoi rfl hE X' Z' a Y (fun j hj _ => hp j hj) b4
    have hni : ∀ x ∈ X' ++ Z', x ≠ i := fun x hx h => by
     rw [h] at hx
     have n1 := List.nodup_append.1 b1
     rcases List.mem_append.1 hx with h | h
     · exact n1.2.2 i h i (by simp) rfl
     · exact (List.nodup_cons.1 n1.2.1).1 h
    have h3 : (X' ++ Z').Pairwise fun j i => Rw ops E i j := (b3.sublist sub_erase).imp_of_mem fun hx hy h => by
     rcases h with h | ⟨-, h⟩
     · exact h
     · exact absurd h (hni _ hx)
    exact .inr (he.mono fun a' Y' hS => ⟨hn', .inl ⟨X' ++ Z', b1.sublist sub_erase, hm', h3, hS⟩⟩)
   · rw [hnw A (hne A hA (Ne.symm n1))] at h; cases h
   · rw [hnw B (hne B hB (Ne.symm n2))] at h; cases h
theorem eOp_ops {ops2 : Array Oper} {e : Bool} {o : Oper} {K : Act → List HL → Prop} {a : Act} {Y : List HL} (hg : o.guard = none) (h : eOp P R cx ops2 e o K a Y) : eOp P R cx ops e o K a Y := by
 have w1 : ∀ z, Region.wanted o z = true := fun z => by simp [Region.wanted, hg]
 cases e with
 | false =>
  obtain ⟨v, h1, h2⟩ := h
  refine ⟨v, ?_, h2⟩
  unfold QVal at *
  simp only [w1] at *
  exact h1
 | true =>
  simp only [eOp, w1] at *
  exact h
theorem SWr.map {ops2 : Array Oper} {E2 F2 : Nat → Bool} : ∀ (js : List Nat) (k : Nat) (a : Act) (Y : List HL), (∀ t j, js[t]? = some j → ∃ o, ops2[k + t]? = some o ∧ ops[j]? = some o ∧ o.guard = none ∧ E2 (k + t) = E j ∧ F2 (k + t) = false) →
  SWr P R cx ops2 E2 F2 Kf (List.range' k js.length) a Y → SWr P R cx ops E (fun _ => false) Kf js a Y
 | [], _, _, _, _, h => h
 | j :: js, k, a, Y, hp, h => by
  obtain ⟨o, e1, e2, e3, e4, e5⟩ := hp 0 j rfl
  rw [Nat.add_zero] at e1 e4 e5
  simp only [List.length_cons, List.range'_succ, SWr, e1, e5, Bool.false_eq_true, if_false, e4] at h
  simp only [SWr, e2, Bool.false_eq_true, if_false]
  refine (eOp_ops e3 h).mono fun a' Y' h' => SWr.map js (k + 1) a' Y' (fun t j' ht => ?_) h'
  have := hp (t + 1) j' (by simpa using ht)
  rw [show k + (t + 1) = k + 1 + t from by omega] at this
  exact this
def pick? (l : List Oper) : List Nat → Option (List Oper)
 | [] => some []
 | j :: r => match l[j]?, pick? l r with
  | some o, some t => some (o :: t)
  | _, _ => none
theorem pick?_spec {l : List Oper} : ∀ {π : List Nat} {l2 : List Oper}, pick? l π = some l2 → l2.length = π.length ∧ ∀ (t j : Nat), π[t]? = some j → ∃ o, l2[t]? = some o ∧ l[j]? = some o
 | [], l2, h => by
  simp only [pick?, Option.some.injEq] at h
  subst h
  exact ⟨rfl, fun t j ht => by simp at ht⟩
 | j :: r, l2, h => by
  simp only [pick?] at h
  split at h
  ·
   rename_i o t ho ht
   cases h
   obtain ⟨i1, i2⟩ := pick?_spec ht
   refine ⟨by simp [i1], fun t' j' ht' => ?_⟩
   cases t' with
   | zero => simp at ht'; subst ht'; exact ⟨o, rfl, ho⟩
   | succ t' => obtain ⟨o', h1, h2⟩ := i2 t' j' (by simpa using ht'); exact ⟨o', by simpa using h1, h2⟩
  · cases h
def pairB (f : Nat → Nat → Bool) : List Nat → Bool
 | [] => true
 | j :: r => r.all (fun i => f j i) && pairB f r
theorem pairB_spec {f : Nat → Nat → Bool} : ∀ {l : List Nat}, pairB f l = true → l.Pairwise fun j i => f j i = true
 | [], _ => List.Pairwise.nil
 | j :: r, h => by
  simp only [pairB, Bool.and_eq_true] at h
  exact List.Pairwise.cons (fun i hi => List.all_eq_true.1 h.1 i hi) (pairB_spec h.2)
def rwB (ops : Array Oper) (E : Nat → Bool) (A B j i : Nat) : Bool :=
 waits ops i j || (match ops[j]?, ops[i]? with | some oj, some oi => oj.apart ops oi && !(E i && E j) | _, _ => false) || (decide (i = B) && decide (j = A))
theorem rwB_spec {A B : Nat} {l : List Nat} (h : pairB (rwB ops E A B) l = true) : Row2 ops E A B l := by
 refine (pairB_spec h).imp fun {j i} h => ?_
 simp only [rwB, Bool.or_eq_true, Bool.and_eq_true, decide_eq_true_eq] at h
 rcases h with (h | h) | h
 · exact .inl (.inl h)
 ·
  refine .inl (.inr ?_)
  split at h
  ·
   rename_i oj oi hj hi
   simp only [Bool.and_eq_true, Bool.not_eq_true'] at h
   exact ⟨fun oj' oi' h1 h2 => by rw [hj] at h1; rw [hi] at h2; cases h1; cases h2; exact h.1, h.2⟩
  · cases h
 · exact .inr h
def crossB (ops : Array Oper) (el : List Kd) (N A B : Nat) (π : List Nat) : Bool :=
 decide (A ≠ B) && decide (A < N) && decide (B < N) && (el.getD A (.b false)).act && (el.getD B (.b false)).act && decide (el.length ≤ N) &&
 (List.range N).all (fun i => !(el.getD i (.b false)).act || decide (i = A) || decide (i = B) || (decide (i ≠ A) && decide (i ≠ B) && (waits ops i A || waits ops i B))) &&
 (List.range N).all (fun i => !(el.getD i (.b false)).fl && π.contains i && (match ops[i]? with | some o => o.guard.isNone | none => false)) &&
 π.all (fun i => decide (i < N)) && decide π.Nodup &&
 pairB (rwB ops (fun j => (el.getD j (.b false)).act) A B) (List.range' 0 N) && pairB (rwB ops (fun j => (el.getD j (.b false)).act) B A) π
variable {n : Nat} {k : List Kont} {ρ : Env} {Y : List HL}
theorem W.drawX {T : Tab} (hT : TabOk P T) {L X : List HL} (N : Nat) (el : List Kd) (π : List Nat) (A B : Nat) (is : List Nat) {id : Nat} {l l2 : List Oper} (hm : P.follows .mixedOrders = true) (hB : drawT l.toArray N = true) (hX : crossB l.toArray el N A B π = true) (hl2 : pick? l π = some l2) (hp : part? is 0 L = some (Y, X))
  (h1 : ∀ cx' : Cx, WD P n (X.flatten ++ R) cx' l.toArray el [] (l.take N) ρ Y (fun ρ' Y' => W P n R cx (.ops l.toArray (l.drop N) :: k) ρ' (Y' ++ X)))
  (h2 : ∀ cx' : Cx, WD P n (X.flatten ++ R) cx' l2.toArray (π.map fun j => el.getD j (.b false)) [] l2 ρ Y (fun ρ' Y' => W P n R cx (.ops l.toArray (l.drop N) :: k) ρ' (Y' ++ X))) : W P n R cx (.code (.region id l.toArray true) :: k) ρ L := by
 refine ⟨fun a w hf hs => ?_⟩
 have hperm := part?_perm hp
 have hs1 := hs.drawn (w.drawn + 1)
 have hlow := hs1.low hperm
 simp only [mean]
 refine wp_region_any hm ?_
 let cx' : Cx := ⟨{ w with drawn := w.drawn + 1 }, ids Y.flatten, fun _ _ _ => False⟩
 have hB' := hB
 simp only [drawT, Bool.and_eq_true, decide_eq_true_eq] at hB'
 have hsel := Region.noSelect_spec hB'.1.1.1.2
 have hN : N ≤ l.length := by simpa using hB'.1.1.2
 have hlen : (l.take N).length = N := by simp; omega
 simp only [crossB, Bool.and_eq_true, decide_eq_true_eq] at hX
 obtain ⟨⟨⟨⟨⟨⟨⟨⟨⟨⟨⟨x1, x2⟩, x3⟩, x4⟩, x5⟩, x6⟩, x7⟩, x8⟩, x9⟩, x10⟩, x11⟩, x12⟩ := hX
 have x8' : ∀ i, i < N → (el.getD i (.b false)).fl = false ∧ i ∈ π ∧ ∀ o, l[i]? = some o → o.guard = none := by
  intro i hi
  have := List.all_eq_true.1 x8 i (by simpa using hi)
  simp only [Bool.and_eq_true, Bool.not_eq_true', List.contains_iff_mem] at this
  refine ⟨this.1.1, this.1.2, fun o ho => ?_⟩
  have h3 := this.2
  have ho' : l.toArray[i]? = some o := by simpa using ho
  rw [ho'] at h3
  simpa using h3
 have x9' : ∀ i ∈ π, i < N := fun i hi => by simpa using List.all_eq_true.1 x9 i hi
 have hS1 := (h1 cx').go (fun j => (el.getD j (.b false)).act) (fun j => (el.getD j (.b false)).fl) 0 a (fun j hj => by rw [hlen] at hj; simp [hj]) hf
 rw [hlen] at hS1
 have hS1' : SWr P (X.flatten ++ R) cx' l.toArray (fun j => (el.getD j (.b false)).act) (fun _ => false) (KfOf n [] (fun ρ' Y' => W P n R cx (.ops l.toArray (l.drop N) :: k) ρ' (Y' ++ X))) (List.range' 0 N) a Y := by
  refine SWr.map (List.range' 0 N) 0 a Y (fun t j ht => ?_) (by rw [List.length_range']; exact hS1)
  obtain ⟨hlt, rfl⟩ := List.getElem?_eq_some_iff.1 ht
  simp only [List.length_range', List.getElem_range'] at hlt ⊢
  have hlt' : t < l.length := by omega
  refine ⟨l[t], by simp [hlt'], by simp [hlt'], (x8' t hlt).2.2 _ (List.getElem?_eq_getElem hlt'), by simp, by simpa using (x8' t hlt).1⟩
 obtain ⟨q1, q2⟩ := pick?_spec hl2
 have hS2 := (h2 cx').go (fun j => ((π.map fun j => el.getD j (.b false)).getD j (.b false)).act) (fun j => ((π.map fun j => el.getD j (.b false)).getD j (.b false)).fl) 0 a (fun j hj => by simp) hf
 rw [q1] at hS2
 have hS2' : SWr P (X.flatten ++ R) cx' l.toArray (fun j => (el.getD j (.b false)).act) (fun _ => false) (KfOf n [] (fun ρ' Y' => W P n R cx (.ops l.toArray (l.drop N) :: k) ρ' (Y' ++ X))) π a Y := by
  refine SWr.map π 0 a Y (fun t j ht => ?_) hS2
  obtain ⟨o, h3, h4⟩ := q2 t j ht
  have hj := x9' j (List.mem_of_getElem? ht)
  have e : (π.map fun j => el.getD j (.b false)).getD t (.b false) = el.getD j (.b false) := by
   rw [List.getD_eq_getElem?_getD, List.getElem?_map, ht]; rfl
  refine ⟨o, by simpa using h3, by simpa using h4, (x8' j hj).2.2 o h4, ?_, ?_⟩
  · simp only [Nat.zero_add, e]
  · simp only [Nat.zero_add, e]; exact (x8' j hj).1
 have hlow0 : Good l.toArray N (List.range' 0 N) (Array.replicate l.toArray.size false) := by
  refine ⟨by simp, List.pairwise_lt_range', by simp, ?_, ?_, ?_⟩
  ·
   intro i hi
   have : i < l.toArray.size := by simp; omega
   rw [getD_tf (by simpa using this)]
   simp [hi]
  ·
   intro i _ hi
   rw [getD_tf (by simpa using hi)]
   simp
  ·
   intro i o ho hl
   have hi := (Array.getElem?_eq_some_iff.1 ho).1
   rw [getD_tf (by simpa using hi)] at hl
   simp at hl
 have := anyI (P := P) (R := X.flatten ++ R) (cx := cx') (ops := l.toArray) (N := N) (Q := mean P n R cx k) (Inv := Inv2 P (X.flatten ++ R) cx' l.toArray (fun j => (el.getD j (.b false)).act) (KfOf n [] (fun ρ' Y' => W P n R cx (.ops l.toArray (l.drop N) :: k) ρ' (Y' ++ X))) A B) hB (by
   rintro a' Y' w' ⟨-, hI⟩ hs'
   have hKf : KfOf n [] (fun ρ' Y' => W P n R cx (.ops l.toArray (l.drop N) :: k) ρ' (Y' ++ X)) a' Y' := by
    rcases hI with ⟨l0, g1, g2, g3, g4⟩ | ⟨l1, l2, g1, g2, g3, g4, g5, g6, g7, g8, g9, g10⟩
    ·
     have : l0 = [] := List.eq_nil_iff_forall_not_mem.2 fun x hx => by have := (g2 x).1 hx; cases this
     subst this
     exact g4
    · cases g9
   obtain ⟨ρ', hf', hW⟩ := hKf (fun _ => 0)
   have := hW.go _ w' hf' (hs1.callP hperm (hs'.perm (X := []) (by simp [zT])))
   simpa [mean, putT] using this) (fun U i V a Y w oi hI hoi hnw hs => inv2_step hsel x1 x4 x5 (fun i hi => by
    rcases Nat.lt_or_ge i N with hiN | hiN
    ·
     have := List.all_eq_true.1 x7 i (by simpa using hiN)
     simp only [hi, Bool.not_true, Bool.false_or, Bool.or_eq_true, Bool.and_eq_true, decide_eq_true_eq] at this
     rcases this with (h | h) | ⟨⟨h, h'⟩, h''⟩
     · exact .inl h
     · exact .inr (.inl h)
     · exact .inr (.inr ⟨h, h', h''⟩)
    ·
     rw [List.getD_eq_getElem?_getD, List.getElem?_eq_none (by omega)] at hi
     cases hi) U i V a Y w oi hI hoi hnw hs) N (List.range' 0 N) (Array.replicate l.toArray.size false) a Y { w with drawn := w.drawn + 1 } (by simp) hlow0 (hlow.perm (X := []) (by simp)) ⟨List.nodup_range', .inr ⟨List.range' 0 N, π, List.nodup_range', fun x => Iff.rfl, rwB_spec x11, hS1', x10, fun x => ⟨fun h => by simpa using x9' x h, fun h => (x8' x (by simpa using h)).2.1⟩, rwB_spec x12, hS2', by simpa using x2, by simpa using x3⟩⟩
 rw [show N + (l.toArray.size - N) = l.toArray.size from by simp; omega] at this
 exact this
end
end Go.Sl
namespace Go.Proofs.YtfpghdcjdnifcaaGreat
open Go Go.Sl Go.IntWalk
set_option maxHeartbeats 8000000
set_option maxRecDepth 20000
set_option linter.unusedVariables false
theorem RGOpen_spec (c : Cf) (hok : c.Ok) (a : Option Addr) (cap : Nat) (hcap : c.ps.length ≤ cap) (ro : HL) (hro : RoSl 3 (cps c.ps) a c.ps.length ro) :
  Ctr Tryz.prog 73 [c.v a cap, .slice none 0 0, .slice none 0 0] [] ro (fun v L' => ∃ l D, v = .agg (List.toArray l) ∧ L' = [D] ∧ DocG (Gt.new c [] []) l (D ++ ro)) := by
 have hP := (RPOpen_spec c hok a cap hcap ro hro [] [] none 0 [] BitsAt.nil (fun _ h => (by cases h)) none 0 [] BitsAt.nil (fun _ h => (by cases h))).ro (ro1 := ro) (fun p hp => by simpa using hp)
 have hT := RTabs_spec c.ps.length (by have := hok.len; omega) 1 (by decide)
 refine Ctr.enter (n := 16) [.cell 6 48] [(0, _), (1, _), (2, _)] Tryz.func73 rfl rfl rfl (lb rfl) Tryz.call73 ⟨rfl, rfl, rfl, trivial⟩ ?_
 intro cx fin fin0
 refine aG ?_
 repeat (first | refine gx ?_ | refine gN fun _ => ?_ | refine gB fun _ => ?_ | fail)
 refine W.drawH tab_ok 9 [.b false, .b false, .b false, .b true, .b false, .b false, .b false, .b true, .b false] [] follows (by decide +kernel) (by decide +kernel) rfl (by decide) rfl ?_
 intro _
 refine dG ?_
 refine gdx ?_
 refine dC (o := hP) (h := ?_) (hro := RoIn.all (fun q hq => List.mem_append_right _ hq))
 rintro _ _ ⟨l, D1, rfl, rfl, hp⟩
 refine dG ?_
 obtain ⟨ac, cc, rc, al, cl, ls, rl, rfl, hp1, hp2, hp3, hp4, hp5, hp6, hp7⟩ := hp
 refine gdx ?_
 refine dC (o := hT) (h := ?_)
 rintro _ _ ⟨at_, ct, lt, Ht, D2, rfl, rfl, ht1, ht2⟩
 refine dG ?_
 refine gdx ?_
 refine dV (OpVal.build (ps := [_, _, _]) tab_ok rfl rfl rfl rfl (by repeat (first | exact trivial | refine ⟨⟨_, _, _, rfl, rfl, rfl⟩, ?_⟩)) rfl) ?_
 refine gdx ?_
 refine WD.nil (W.dropNil (aG ?_))
 repeat refine gx ?_
 refine W.groupV [0, 0, 0] rfl ?_
 refine W.ret (fin _ _ (FinOk.first 1 (aRc .nil) rfl ?_))
 have e : (Gt.new c [] []).tabs.length = c.ps.length := List.length_replicate
 have hs : ∀ q ∈ D1 ++ (ro ++ ([] ++ [])), q ∈ (Ht ++ (D2 ++ D1)) ++ ro := by
  intro q hq
  rcases List.mem_append.1 hq with h | h
  · simp [h]
  · simp at h; simp [h]
 have hs2 : ∀ q ∈ D2, q ∈ (Ht ++ (D2 ++ D1)) ++ ro := fun q hq => by simp [hq]
 refine ⟨_, _, rfl, rfl, [.int .i64 (Pl.new c [] []).c.fr, .int .i64 (Pl.new c [] []).c.dp, .int .i64 (Pl.new c [] []).c.se, .slice ac (Pl.new c [] []).c.ps.length cc, .slice al (Pl.new c [] []).l.length cl, .int .i64 (Pl.new c [] []).now, .int .i64 (Pl.new c [] []).epoch, .int .i64 (Pl.new c [] []).down], at_, ct, lt, Ht, (by rw [e]; rfl), DocP.mono (p := Pl.new c [] []) ⟨ac, cc, rc, al, cl, ls, rl, rfl, hp1, hp2, hp3, hp4, hp5, hp6, hp7⟩ hs, ht1.mono (fun _ _ h => h.mono hs2), by rw [e]; exact Own.roSl ht2, fun q hq => by simp [hq], by rw [e]; exact Own.le ht2⟩
theorem RBit_spec (x b : Int) (hx : 0 ≤ x ∧ x < 16) (hb : b = 1 ∨ b = 2 ∨ b = 4 ∨ b = 8) : Ctr Tryz.prog 78 [.int .i64 x, .int .i64 b] [] [] (fun v L' => v = .bool (decide (x / b % 2 = 1)) ∧ L' = []) := by
 have h1 : x.tdiv b = x / b := Int.tdiv_eq_ediv_of_nonneg hx.1
 have h2 : 0 ≤ x / b ∧ x / b < 16 := by rcases hb with rfl | rfl | rfl | rfl <;> omega
 have h0 : b ≠ 0 := by rcases hb with rfl | rfl | rfl | rfl <;> decide
 have h3 : (x / b).tmod 2 = x / b % 2 := Int.tmod_eq_emod_of_nonneg h2.1
 have e1 : IntKind.i64.wrap (x.tdiv b) = x / b := by rw [h1]; exact i64_in _ (by omega)
 clear hb
 generalize x / b = y at *
 refine Ctr.enter (n := 10) [.tmp 4] [(0, _), (1, _)] Tryz.func78 rfl rfl rfl (lb rfl) Tryz.call78 ⟨rfl, rfl, trivial⟩ ?_
 intro cx fin fin0
 refine aG ?_
 repeat refine gx ?_
 refine aV (OpVal.quo rfl rfl h0 e1) ?_
 refine aV (OpVal.rem rfl rfl (by decide) h3) ?_
 repeat refine gx ?_
 refine W.ret (fin _ _ (FinOk.first 0 (.tmp rfl .nil) rfl ?_))
 exact ⟨rfl, rfl⟩
def pw (j : Nat) : Int := ([1, 2, 4, 8] : List Int).getD j 1
theorem pw_or (j : Nat) (h : j < 4) : pw j = 1 ∨ pw j = 2 ∨ pw j = 4 ∨ pw j = 8 := by
 have : j = 0 ∨ j = 1 ∨ j = 2 ∨ j = 3 := by omega
 rcases this with rfl | rfl | rfl | rfl <;> decide
theorem pw_at (j : Nat) (h : j < 4) : [Value.int .i64 1, .int .i64 2, .int .i64 4, .int .i64 8][0 + j * 1]? = some (.int .i64 (pw j)) := by
 have : j = 0 ∨ j = 1 ∨ j = 2 ∨ j = 3 := by omega
 rcases this with rfl | rfl | rfl | rfl <;> rfl
theorem RNeeds_spec (n : Nat) (h : 1 ≤ n ∧ n ≤ 8) : Ctr Tryz.prog 33 [.int .i64 (n : Int)] [] [] (fun v L' => v = .int .i64 (needs (n : Int)) ∧ L' = []) := by
 have z1 : ¬ (n : Int) < 1 := by omega
 have z2 : ¬ (n : Int) > 8 := by omega
 have hlt : n < 9 := by omega
 have hl : [Value.int .i64 0, .int .i64 1, .int .i64 1, .int .i64 2, .int .i64 1, .int .i64 4, .int .i64 4, .int .i64 2, .int .i64 1][0 + n * 1]? = some (.int .i64 (needs (n : Int))) := by
  have : n = 1 ∨ n = 2 ∨ n = 3 ∨ n = 4 ∨ n = 5 ∨ n = 6 ∨ n = 7 ∨ n = 8 := by omega
  rcases this with rfl | rfl | rfl | rfl | rfl | rfl | rfl | rfl <;> rfl
 refine Ctr.enter (n := 13) [.tmp 2] [(0, _)] Tryz.func33 rfl rfl rfl (lb rfl) Tryz.call33 ⟨rfl, trivial⟩ ?_
 intro cx fin fin0
 refine aG ?_
 repeat refine gh (gc2 z1 z2) ?_
 refine aSl (ps := [_, _, _, _, _, _, _, _, _]) ?_
 intro bt
 refine aG ?_
 repeat refine gx ?_
 refine aV (OpVal.ixSl tab_ok rfl rfl rfl rfl rfl hlt) ?_
 refine aV (OpVal.load tab_ok rfl (at_own 0 rfl) hl) ?_
 repeat refine gx ?_
 refine W.order [] rfl ?_
 refine W.ret (fin _ _ (FinOk.first 0 (.tmp rfl .nil) rfl ?_))
 exact ⟨rfl, rfl⟩
theorem dhas_no {s n : Int} {j : Nat} (h : j < 4) (h1 : n / pw j % 2 = 1) (h2 : ¬ s / pw j % 2 = 1) : dhas s n = false := by
 have : j = 0 ∨ j = 1 ∨ j = 2 ∨ j = 3 := by omega
 rw [Bool.eq_false_iff]
 unfold dhas
 intro h
 simp only [Bool.and_eq_true, decide_eq_true_eq] at h
 obtain ⟨⟨⟨a1, a2⟩, a3⟩, a4⟩ := h
 rcases this with rfl | rfl | rfl | rfl <;> simp only [pw, List.getD_cons_zero, List.getD_cons_succ] at h1 h2 <;> omega
theorem dhas_yes {s n : Int} (h : ∀ i, i < 4 → n / pw i % 2 = 1 → s / pw i % 2 = 1) : dhas s n = true := by
 have h0 := h 0 (by decide)
 have h1 := h 1 (by decide)
 have h2 := h 2 (by decide)
 have h3 := h 3 (by decide)
 simp only [pw, List.getD_cons_zero, List.getD_cons_succ] at h0 h1 h2 h3
 unfold dhas
 simp only [Bool.and_eq_true, decide_eq_true_eq]
 omega
theorem RHas_spec (s n : Int) (hs : 0 ≤ s ∧ s < 16) (hn : 0 ≤ n ∧ n < 16) : Ctr Tryz.prog 32 [.int .i64 s, .int .i64 n] [] [] (fun v L' => v = .bool (dhas s n) ∧ L' = []) := by
 have hBs := fun b hb => RBit_spec s b hs hb
 have hBn := fun b hb => RBit_spec n b hn hb
 refine Ctr.enter (n := 31) [.tmp 4] [(0, _), (1, _)] Tryz.func32 rfl rfl rfl (lb rfl) Tryz.call32 ⟨rfl, rfl, trivial⟩ ?_
 intro cx fin fin0
 refine aG ?_
 repeat refine gx ?_
 refine aSl (ps := [_, _, _, _]) ?_
 intro bt
 refine aG ?_
 repeat refine gx ?_
 refine aLp (fun k ρ1 L1 => ∃ (j : Nat), j ≤ 4 ∧ k = 4 - j ∧ (∀ i, i < j → n / pw i % 2 = 1 → s / pw i % 2 = 1) ∧ ρ1 = [(6, .int .i64 (j : Int)), (5, .slice (some ⟨bt, 0, none⟩) 4 4), (4, .bool false), (0, .int .i64 s), (1, .int .i64 n)] ∧ L1 = [[(bt, .cells #[.int .i64 1, .int .i64 2, .int .i64 4, .int .i64 8] 3 (0, 0))]]) (o := ⟨0, by decide, rfl, (by intro i hi; omega), rfl, rfl⟩) (h := ?_)
 rintro k ρ1 L1 ⟨j, hj, rfl, hall, rfl, rfl⟩
 refine aG ?_
 rcases Classical.em ((j : Int) < 4) with hz | hz
 ·
  have hlt : j < 4 := by omega
  have hB1 := hBs (pw j) (pw_or j hlt)
  have hB2 := hBn (pw j) (pw_or j hlt)
  have l0 := pw_at j hlt
  have hno := fun h1 h2 => dhas_no (s := s) (n := n) hlt h1 h2
  have hst : (n / pw j % 2 = 1 → s / pw j % 2 = 1) → ∀ i, i < j + 1 → n / pw i % 2 = 1 → s / pw i % 2 = 1 := by
   intro h i hi
   rcases Nat.lt_or_ge i j with h2 | h2
   · exact hall i h2
   ·
    have : i = j := by omega
    rw [this]; exact h
  generalize pw j = b at *
  repeat refine gh hz ?_
  refine aV (OpVal.ixSl tab_ok rfl rfl rfl rfl rfl hlt) ?_
  refine aV (OpVal.load tab_ok rfl (at_own 0 rfl) l0) ?_
  repeat refine gx ?_
  refine aC (o := hB1) (h := ?_)
  rintro _ _ ⟨rfl, rfl⟩
  refine aG ?_
  repeat refine gx ?_
  refine aV (OpVal.ixSl tab_ok rfl rfl rfl rfl rfl hlt) ?_
  refine aV (OpVal.load tab_ok rfl (at_own 0 rfl) l0) ?_
  repeat refine gx ?_
  refine aC (o := hB2) (h := ?_)
  rintro _ _ ⟨rfl, rfl⟩
  refine aG ?_
  rcases Classical.em (n / b % 2 = 1) with hn1 | hn1
  ·
   rcases Classical.em (s / b % 2 = 1) with hs1 | hs1
   ·
    repeat refine gh (gc2 hn1 hs1) ?_
    refine aR (o := ⟨4 - (j + 1), by omega, j + 1, by omega, rfl, hst (fun _ => hs1), rfl, rfl⟩)
   ·
    repeat refine gh (gc2 hn1 hs1) ?_
    refine W.order [] rfl ?_
    refine W.ret (fin _ _ (FinOk.first 0 (.tmp rfl .nil) rfl ?_))
    rw [hno hn1 hs1]
    exact ⟨rfl, rfl⟩
  ·
   repeat refine gh hn1 ?_
   refine aR (o := ⟨4 - (j + 1), by omega, j + 1, by omega, rfl, hst (fun h => absurd h hn1), rfl, rfl⟩)
 ·
  obtain rfl : j = 4 := by omega
  repeat refine gh hz ?_
  refine W.order [] rfl ?_
  refine W.ret (fin _ _ (FinOk.first 0 (.tmp rfl .nil) rfl ?_))
  rw [dhas_yes hall]
  exact ⟨rfl, rfl⟩
theorem DocG.ten {g : Gt} {l : List Value} {D : HL} (h : DocG g l D) : ∃ v0 v1 v2 v3 v4 v5 v6 v7 v8 v9, l = [v0, v1, v2, v3, v4, v5, v6, v7, v8, v9] := by
 obtain ⟨lp, at_, ct, ls, rt, rfl, ⟨ac, cc, rc, al, cl, ls, rl, rfl, -⟩, -⟩ := h
 exact ⟨_, _, _, _, _, _, _, _, _, _, rfl⟩
theorem LBegin_spec (c : Cf) (hok : c.Ok) (a : Option Addr) (cap : Nat) (hcap : c.ps.length ≤ cap) (ro : HL) (hro : RoSl 3 (cps c.ps) a c.ps.length ro) :
  Ctr Tryz.prog 26 [c.v a cap, .slice none 0 0, .slice none 0 0] [] ro (fun v L' => ∃ bw bg v0 v1 v2 v3 v4 v5 v6 v7 v8 v9 ac cc H D C, v = .pointer (some ⟨bw, 0, none⟩) ∧ L' = [[(bw, .cells #[.pointer (some ⟨bg, 0, none⟩), v0, v1, v2, v3, v4, v5, v6, v7, v8, v9, .slice ac 1 cc] 51 (0, 0))], H, D, C] ∧ GtAt (Gt.new c [] []) bg H ∧ DocG (Gt.new c [] []) [v0, v1, v2, v3, v4, v5, v6, v7, v8, v9] (D ++ ro) ∧ Own 2 33 [.int .i64 0, .int .i64 1048576] ac 1 cc C) := by
 have hl := hok.len
 have hO := GOpenOk_spec c hok hok.in_ a cap ro hcap hro
 have hi := new_ginv hok hok.in_ [] []
 have hR := fun b H h => GRoot_spec (Gt.new c [] []) hi b H h 0
 rw [new_root, if_pos (by omega)] at hR
 have hP := RGOpen_spec c hok a cap hcap ro hro
 generalize Gt.new c [] [] = g at *
 simp only [capV] at hR
 refine Ctr.enter (n := 40) [.tmp 6] [(0, _), (1, _), (2, _)] Tryz.func26 rfl rfl rfl (lb rfl) Tryz.call26 ⟨rfl, rfl, rfl, trivial⟩ ?_
 intro cx fin fin0
 refine aG ?_
 repeat (first | refine gx ?_ | refine gN fun _ => ?_ | refine gB fun _ => ?_ | fail)
 refine aC (o := hO) (h := ?_) (hro := RoIn.all (fun q hq => hq))
 rintro _ _ ⟨bg, Hg, rfl, rfl, hga⟩
 refine aG ?_
 repeat refine gx ?_
 refine aC (o := hR bg Hg hga) (h := ?_)
 rintro _ _ ⟨Hg, rfl, rfl, hga⟩
 refine aG ?_
 repeat (first | refine gx ?_ | refine gN fun _ => ?_ | refine gB fun _ => ?_ | fail)
 refine W.drawX tab_ok 8 [.b false, .b false, .b false, .b false, .b true, .b false, .b true, .b false] [0, 1, 2, 3, 5, 6, 4, 7] 4 6 [] follows (by decide +kernel) (by decide +kernel) rfl rfl ?_ ?_
 ·
  intro _
  refine dG ?_
  refine gdx ?_
  refine dC (o := hP) (h := ?_) (hro := RoIn.all (fun q hq => List.mem_append_right _ hq))
  rintro _ _ ⟨l, D, rfl, rfl, hd⟩
  refine dG ?_
  obtain ⟨v0, v1, v2, v3, v4, v5, v6, v7, v8, v9, rfl⟩ := DocG.ten hd
  refine gdx ?_
  refine dSl (ps := [_]) ?_
  intro bt
  refine dG ?_
  refine gdx ?_
  refine dV (OpVal.build (ps := [_, _, _]) tab_ok rfl rfl rfl rfl (by repeat (first | exact trivial | refine ⟨⟨_, _, _, rfl, rfl, rfl⟩, ?_⟩)) rfl) ?_
  refine gdx ?_
  refine WD.nil (W.dropNil (aG ?_))
  repeat (first | refine gx ?_ | refine gN fun _ => ?_ | refine gB fun _ => ?_ | fail)
  refine W.order [0, 3, 1, 0] rfl ?_
  refine W.ret (fin _ _ (FinOk.first 4 (.tmp rfl .nil) rfl ?_))
  exact ⟨_, bg, _, _, _, _, _, _, _, _, _, _, _, _, Hg, D, _, rfl, rfl, hga, hd, Own.exact (cs := [.int .i64 0, .int .i64 1048576]) bt rfl⟩
 ·
  intro _
  refine dG ?_
  refine gdx ?_
  refine dSl (ps := [_]) ?_
  intro bt
  refine dG ?_
  refine gdx ?_
  refine dC (o := hP) (h := ?_) (hro := RoIn.all (fun q hq => List.mem_append_right _ hq))
  rintro _ _ ⟨l, D, rfl, rfl, hd⟩
  refine dG ?_
  obtain ⟨v0, v1, v2, v3, v4, v5, v6, v7, v8, v9, rfl⟩ := DocG.ten hd
  refine gdx ?_
  refine dV (OpVal.build (ps := [_, _, _]) tab_ok rfl rfl rfl rfl (by repeat (first | exact trivial | refine ⟨⟨_, _, _, rfl, rfl, rfl⟩, ?_⟩)) rfl) ?_
  refine gdx ?_
  refine WD.nil (W.dropNil (aG ?_))
  repeat (first | refine gx ?_ | refine gN fun _ => ?_ | refine gB fun _ => ?_ | fail)
  refine W.order [0, 3, 0, 0] rfl ?_
  refine W.ret (fin _ _ (FinOk.first 4 (.tmp rfl .nil) rfl ?_))
  exact ⟨_, bg, _, _, _, _, _, _, _, _, _, _, _, _, Hg, D, _, rfl, rfl, hga, hd, Own.exact (cs := [.int .i64 0, .int .i64 1048576]) bt rfl⟩
end Go.Proofs.YtfpghdcjdnifcaaGreat
namespace Go.Proofs.YtfpghdcjdnifcaaGreat
open Go Go.Sl Go.IntWalk
set_option maxHeartbeats 8000000
set_option maxRecDepth 20000
set_option linter.unusedVariables false
def g3 (x : Int) : Gt := g2.setTab 1 ((Tb.new 1).give 1 x)
theorem g2_mint (x : Int) (hx : 0 ≤ x ∧ x < 16) : g2.mint 1 (0, 1048576) x = (g3 x, (1, 1048577), 0) := by
 have h1 : g2.why 1 = 0 := by decide
 have h2 : g2.tab 1 = Tb.new 1 := rfl
 unfold Gt.mint
 rw [if_neg (by rw [h1]; simp), h2, show ((0 : Int), (1048576 : Int)) = (0, 1 * 1048576) from rfl, fresh_mint hx]
 rfl
theorem g3_inv (x : Int) (hx : 0 ≤ x ∧ x < 16) : (g3 x).Inv := by
 refine ⟨g2_inv.p, by show (g2.tabs.set _ _).length = _; rw [List.length_set]; exact g2_inv.len, fun t ht => ?_⟩
 rcases List.mem_or_eq_of_mem_set ht with h | h
 · exact g2_inv.tb t h
 · rw [h]; exact ⟨Tb.give_inv (Tb.new_inv (by decide)) (by decide) 1 hx, rfl⟩
theorem g3_do (x : Int) (hx : 0 ≤ x ∧ x < 16) (k : Nat) (hk : 1 ≤ k ∧ k ≤ 8) : ((g3 x).accept 1 (reqBytes (1, 1048577) (rq0 (k : Int)))).2 = if rhas x (needs (k : Int)) then (1, 0) else (0, 11) := by
 have h1 : (g3 x).why 1 = 0 := rfl
 have h2 : (g3 x).tab 1 = (Tb.new 1).give 1 x := rfl
 have h3 : rdReq (reqBytes (1, 1048577) (rq0 (k : Int))) = ((1, 1048577), rq0 (k : Int), 0) := by
  have := rdReq_bytes (rqI (1, 1048577) ⟨i64k 1 (by decide), (⟨by decide, by decide⟩ : i64s 1048577)⟩ (k : Int) (i64k _ (by omega))) (Nat.zero_le _) []
  rw [List.append_nil, if_pos rfl] at this
  exact this
 have h4 : needs (k : Int) ≠ 0 := by
  have : k = 1 ∨ k = 2 ∨ k = 3 ∨ k = 4 ∨ k = 5 ∨ k = 6 ∨ k = 7 ∨ k = 8 := by omega
  rcases this with rfl | rfl | rfl | rfl | rfl | rfl | rfl | rfl <;> decide
 have h5 : (g3 x).let_ 1 (reqBytes (1, 1048577) (rq0 (k : Int))) = if rhas x (needs (k : Int)) then 0 else 11 := by
  unfold Gt.let_
  rw [h3, if_neg (by simp [rq0, h4]), h2]
  exact minted_check (e := 1)
 unfold Gt.accept
 rw [if_neg (by rw [h1]; simp), h5, h3]
 by_cases h : rhas x (needs (k : Int)) = true
 ·
  rw [if_pos h, if_pos h, if_neg (by simp)]
  show ((g3 x).p.submit 1 (rq0 (k : Int))).2 = (1, 0)
  have h6 : (g3 x).p.in_ 1 := by show g2.p.in_ 1; decide
  unfold Pl.submit
  rw [if_neg (fun hn => hn h6), if_neg (by show ¬ (0 : Int) ≠ 0; simp)]
  exact first_submit (by show 1 ≤ g2.p.c.dp.toNat; decide) (plain_check (by omega) (by decide)) _
 · rw [if_neg h, if_neg h, if_pos (by simp)]
theorem GateRights_spec (s n : Int) (hs : i64s s) (hn : i64s n) : Ctr Tryz.prog 4 [.int .i64 s, .int .i64 n] [] [] (fun v L' => v = .bool true ∧ L' = []) := by
 have hB := fun a cap ro hc hr => LBegin_spec cf2 cf2_ok a cap hc ro hr
 have hA1 := Around_spec s 16 hs (by decide)
 have hA2 := Around_spec n 8 hn (by decide)
 have r1 := around_range s 16 (by decide)
 have r2 := around_range n 8 (by decide)
 generalize around s 16 = x at *
 generalize around n 8 = y at *
 obtain ⟨k, hk⟩ : ∃ k : Nat, 1 + y = (k : Int) := ⟨(1 + y).toNat, by omega⟩
 have hk8 : 1 ≤ k ∧ k ≤ 8 := by omega
 have hM := fun b H h => GMint_spec g2 g2_inv b H h 1 (0, 1048576) x
 rw [g2_mint x r1] at hM
 have hR := ReqBytes_spec (1, 1048577) (rq0 (k : Int)) (rqI (1, 1048577) ⟨i64k 1 (by decide), (⟨by decide, by decide⟩ : i64s 1048577)⟩ (k : Int) (i64k _ (by omega))) (Nat.zero_le _) none 0 [] ⟨rfl, .inl ⟨rfl, rfl⟩⟩
 have hD := fun b H h a cap ro hro => GDo_spec (g3 x) (g3_inv x r1) b H h 1 (by intro _; show (g2.p.tn 1).t.ids < 1000000; decide) (reqBytes (1, 1048577) (rq0 (k : Int))) (reqBytes_ok _ nou8') (by rw [reqBytes_len]; show 56 + 0 ≤ 1000000; decide) a cap ro hro
 rw [g3_do x r1 k hk8, show (g3 x).p.now = 0 from rfl] at hD
 generalize ((g3 x).accept 1 (reqBytes (1, 1048577) (rq0 (k : Int)))).1 = g4 at *
 generalize reqBytes (1, 1048577) (rq0 (k : Int)) = bb at *
 have hN := RNeeds_spec k hk8
 have hn16 := needs_le (k : Int)
 have hH := RHas_spec x (needs (k : Int)) r1 hn16
 rw [rhas_dhas r1 hn16] at hD
 generalize dhas x (needs (k : Int)) = ok at *
 generalize g3 x = g3x at *
 generalize hans : (if ok = true then ((1 : Int), (0 : Int)) else (0, 11)) = ans at hD
 obtain ⟨i1, e1⟩ := ans
 have hL := GLives_spec
 have hg : g2 = Gt.new cf2 [] [] := rfl
 rw [← hg] at hB
 generalize g2 = g2x at *
 simp only [capV, Rq.v, rq0] at *
 refine Ctr.enter (n := 73) [.tmp 4] [(0, _), (1, _)] Tryz.func4 rfl rfl rfl (lb rfl) Tryz.call4 ⟨rfl, rfl, trivial⟩ ?_
 intro cx fin fin0
 refine aG ?_
 repeat refine gx ?_
 refine aC (o := Two_spec) (h := ?_)
 rintro _ _ ⟨a, cap, H0, rfl, rfl, ho⟩
 refine aG ?_
 obtain ⟨ho1, ho2⟩ := cfOwn ho
 refine aC (o := hB a cap H0 ho1 ho2) (h := ?_) (hro := RoIn.own 0 rfl)
 rintro _ _ ⟨bw, bg, v0, v1, v2, v3, v4, v5, v6, v7, v8, v9, ac, cc, H, D, C, rfl, rfl, hga, hd, hc⟩
 refine aG ?_
 repeat (first | refine gx ?_ | refine gN fun _ => ?_ | refine gB fun _ => ?_ | fail)
 refine aC (o := hA1) (h := ?_)
 rintro _ _ ⟨rfl, rfl⟩
 refine aG ?_
 repeat refine gx ?_
 refine aC (o := hA2) (h := ?_)
 rintro _ _ ⟨rfl, rfl⟩
 refine aG ?_
 repeat refine gx ?_
 have hc1 : RoSl 2 (capsL [((0 : Int), (1048576 : Int))]) ac 1 C := Own.roSl hc
 obtain ⟨bx, ox, lx, ex, frx, rfl, rfl, hld⟩ := caps_at (l := [((0 : Int), (1048576 : Int))]) hc1 (i := 0) (by decide)
 rw [hk]
 have h01 : 0 < 1 := by decide
 refine W.drawG tab_ok 16 17 [.b false, .b false, .b false, .b false, .b false, .b false, .b false, .b false, .b false, .b false, .b false, .b true, .b false, .b false, .b false, .f] [.b true] [1] follows (by decide) rfl (by decide +kernel) (by decide +kernel) (by decide) (by decide +kernel) rfl (by decide) rfl ?_
 intro _
 refine dG ?_
 refine gdx ?_
 refine dV (OpVal.ixSl tab_ok rfl rfl rfl rfl rfl h01) ?_
 refine dV (OpVal.load tab_ok rfl (show At _ _ bx (.cells lx.toArray ex frx) from .inr (by simp)) hld) ?_
 refine gdx ?_
 refine dC (o := hM bg H hga) (h := ?_)
 rintro _ _ ⟨H', rfl, rfl, hga'⟩
 refine dG ?_
 refine gdx ?_
 refine WD.float tab_ok rfl rfl (lb rfl) (dG ?_)
 refine WD.nil ?_
 intro _ _ _ e; cases e
 refine dG ?_
 refine gdx ?_
 refine WD.nil (W.dropNil (aG ?_))
 repeat refine gx ?_
 refine W.drawG tab_ok 10 11 [.b false, .b false, .b false, .b false, .b false, .b false, .b false, .b true, .b true, .f] [.b true] [1] follows (by decide) rfl (by decide +kernel) (by decide +kernel) (by decide) (by decide +kernel) rfl (by decide) rfl ?_
 intro _
 refine dG ?_
 refine gdx ?_
 refine dV (OpVal.build (ps := [_]) tab_ok rfl rfl rfl rfl (by repeat (first | exact trivial | refine ⟨⟨_, _, _, rfl, rfl, rfl⟩, ?_⟩)) rfl) ?_
 refine gdx ?_
 refine dC (o := hR) (h := ?_)
 rintro _ _ ⟨a1, c1, H1, rfl, rfl, ho3⟩
 refine dG ?_
 refine gdx ?_
 refine dC (o := hD bg H' hga' a1 c1 H1 (Own.roSl ho3)) (h := ?_) (hro := RoIn.own 0 rfl)
 rintro _ _ ⟨H2, rfl, rfl, hga2⟩
 refine dG ?_
 refine gdx ?_
 refine WD.float tab_ok rfl rfl (lb rfl) (dG ?_)
 refine WD.nil ?_
 intro _ _ _ e; cases e
 refine dG ?_
 refine gdx ?_
 refine WD.nil (W.dropNil (aG ?_))
 repeat refine gx ?_
 refine aC (o := hN) (h := ?_)
 rintro _ _ ⟨rfl, rfl⟩
 refine aG ?_
 refine aC (o := hH) (h := ?_)
 rintro _ _ ⟨rfl, rfl⟩
 refine aG ?_
 repeat refine gx ?_
 cases ok with
 | true =>
  simp only [if_true, Prod.mk.injEq] at hans
  obtain ⟨rfl, rfl⟩ := hans
  repeat refine gx ?_
  refine aC (o := hL) (h := ?_) (hro := RoIn.nil)
  rintro _ _ ⟨rfl, rfl⟩
  refine aG ?_
  repeat refine gx ?_
  refine W.order [] rfl ?_
  refine W.ret (fin _ _ (FinOk.first 0 (.tmp rfl .nil) rfl ?_))
  exact ⟨rfl, rfl⟩
 | false =>
  simp only [Bool.false_eq_true, if_false, Prod.mk.injEq] at hans
  obtain ⟨rfl, rfl⟩ := hans
  repeat refine gx ?_
  refine aC (o := hL) (h := ?_) (hro := RoIn.nil)
  rintro _ _ ⟨rfl, rfl⟩
  refine aG ?_
  repeat refine gx ?_
  refine W.order [] rfl ?_
  refine W.ret (fin _ _ (FinOk.first 0 (.tmp rfl .nil) rfl ?_))
  exact ⟨rfl, rfl⟩
end Go.Proofs.YtfpghdcjdnifcaaGreat
