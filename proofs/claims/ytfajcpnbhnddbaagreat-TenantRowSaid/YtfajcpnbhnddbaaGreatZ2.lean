/-
  The walks of this claim and the rules that they use, part two: each theorem is a contract of one function, or what such a proof asks.
-/
import Derived.Test.YtfajcpnbhnddbaaGreatZ1
import Derived.MapKept
import Derived.Carry
import Derived.Laws.BytesString
import Derived.IntWalk
import Derived.Test.YtfajcpnbhnddbaaGreatRows
import Derived.ProofKit
import Derived.Deep.Slices
import Derived.Laws.StructEq
namespace Go.Sl
set_option linter.unusedVariables false
open Go
section
variable {P : Program} {R : HL} {cx : Cx} {ops : Array Oper} {E F : Nat → Bool} {Kf : Act → List HL → Prop}
def acts (P : Program) (o : Oper) (a : Act) (w : World) (N : Act → World → Prop) : Prop :=
  (∃ v w', (execOp a.eval o).run P w = .ok (.value v) w' ∧ N (a.put o.dst v) w') ∨ (∃ w', (execOp a.eval o).run P w = .ok .skip w' ∧ N (a.put o.dst undef) w') ∨
  ∃ f args w', (execOp a.eval o).run P w = .ok (.enter f args) w' ∧ Calls P f args w' fun e w'' => ∃ v, e = .returned v ∧ N (a.put o.dst v) w''
theorem acts_of_same {o : Oper} {a a' : Act} {w : World} {N N' : Act → World → Prop} (he : execOp a'.eval o = execOp a.eval o) (h : ∀ v w', N (a.put o.dst v) w' → N' (a'.put o.dst v) w') (hh : acts P o a w N) : acts P o a' w N' := by
  unfold acts at *
  rw [he]
  rcases hh with ⟨v, w', hr, hn⟩ | ⟨w', hr, hn⟩ | ⟨f, args, w', hr, hn⟩
  · exact .inl ⟨v, w', hr, h _ _ hn⟩
  · exact .inr (.inl ⟨w', hr, h _ _ hn⟩)
  · exact .inr (.inr ⟨f, args, w', hr, hn.mono fun e w'' ⟨v, he, hn⟩ => ⟨v, he, h _ _ hn⟩⟩)
theorem acts_mono {o : Oper} {a : Act} {w : World} {N N' : Act → World → Prop} (h : ∀ v w, N (a.put o.dst v) w → N' (a.put o.dst v) w) (hh : acts P o a w N) : acts P o a w N' := acts_of_same rfl h hh
theorem acts_some {o : Oper} {a : Act} {w : World} {N : Act → World → Prop} (hh : acts P o a w N) : ∃ v w', N (a.put o.dst v) w' := by
  rcases hh with ⟨v, w', hr, hn⟩ | ⟨w', hr, hn⟩ | ⟨f, args, w', hr, hn⟩
  · exact ⟨_, _, hn⟩
  · exact ⟨_, _, hn⟩
  · obtain ⟨e, w'', fr, ⟨v, _, hn⟩, _⟩ := hn []
    exact ⟨_, _, hn⟩
theorem acts_wp {o : Oper} {a : Act} {w : World} {N : Act → World → Prop} {Q : Exit → Act → World → Prop} (hh : acts P o a w N) : o.wp P a w N Q := by
  unfold Oper.wp
  rcases hh with ⟨v, w', hr, hn⟩ | ⟨w', hr, hn⟩ | ⟨f, args, w', hr, hn⟩
  · rw [hr]; exact hn
  · rw [hr]; exact hn
  · rw [hr]; exact hn.mono fun e w'' ⟨v, he, hn⟩ => by subst he; exact hn
def Lf (Y Y' : List HL) (w w' : World) : Prop := w.heap.size ≤ w'.heap.size ∧ (∀ b, b < w.heap.size → b ∉ ids Y.flatten → w'.heap[b]? = w.heap[b]?) ∧ ∀ b ∈ ids Y'.flatten, b ∈ ids Y.flatten ∨ w.heap.size ≤ b
def qacts (P : Program) (o : Oper) (a : Act) (w : World) (v : Value) (N : World → Prop) : Prop :=
  (∃ w', (execOp a.eval o).run P w = .ok (.value v) w' ∧ N w') ∨ ∃ f args w', (execOp a.eval o).run P w = .ok (.enter f args) w' ∧ P.inits.idxOf? f = none ∧ Calls P f args w' fun e w'' => e = .returned v ∧ N w''
theorem qacts_wp {o : Oper} {a : Act} {w : World} {v : Value} {N : World → Prop} {K : Act → World → Prop} {Q : Exit → Act → World → Prop} (hh : qacts P o a w v N) (h : ∀ w', N w' → K (a.put o.dst v) w') : o.wp P a w K Q := by
  unfold Oper.wp
  rcases hh with ⟨w', hr, hn⟩ | ⟨f, args, w', hr, _, hn⟩
  · rw [hr]; exact h _ hn
  · rw [hr]; exact hn.mono fun e w'' ⟨he, hn⟩ => by subst he; exact h _ hn
theorem qacts_agree {o : Oper} {a : Act} {w : World} {v v' : Value} {N N' : World → Prop} (h : qacts P o a w v N) (h' : qacts P o a w v' N') : v = v' := by
  rcases h with ⟨w1, hr, _⟩ | ⟨f, args, w1, hr, hi, hn⟩ <;> rcases h' with ⟨w2, hr', _⟩ | ⟨f', args', w2, hr', _, hn'⟩
  · rw [hr] at hr'; cases hr'; rfl
  · rw [hr] at hr'; cases hr'
  · rw [hr] at hr'; cases hr'
  · rw [hr] at hr'
    cases hr'
    have q1 : Calls P f args w1 fun | .returned u, _ => u = v | _, _ => False := hn.mono fun e w'' ⟨he, _⟩ => by subst he; rfl
    have q2 : Calls P f args w1 fun | .returned u, _ => u = v' | _, _ => False := hn'.mono fun e w'' ⟨he, _⟩ => by subst he; rfl
    obtain ⟨n, u, w3, e1, r1⟩ := q1.done hi
    obtain ⟨m, u', w4, e2, r2⟩ := q2.done hi
    have a1 := runN_ended e1 m
    have a2 := runN_ended e2 n
    rw [Nat.add_comm, a1] at a2
    injection a2 with ho hw
    injection ho with hv
    exact r1.symm.trans (hv.trans r2)
def QVal (P : Program) (R : HL) (cx : Cx) (ops : Array Oper) (o : Oper) (v : Value) (a : Act) : Prop :=
  (Region.wanted o (yielded ops a.tmps) = true ∧ ∀ Y w, St cx.w0 cx.S0 R Y w → qacts P o a w v fun w' => St cx.w0 cx.S0 R Y w' ∧ Lf Y Y w w') ∨ (Region.wanted o (yielded ops a.tmps) = false ∧ v = undef)
theorem Lf.rfl' {Y : List HL} {w : World} : Lf Y Y w w := ⟨Nat.le_refl _, fun _ _ _ => rfl, fun _ h => .inl h⟩
theorem QVal.of_same {o : Oper} {v : Value} {a a' : Act} (h : QVal P R cx ops o v a) (he : execOp a'.eval o = execOp a.eval o) (hw : Region.wanted o (yielded ops a'.tmps) = Region.wanted o (yielded ops a.tmps)) :
    QVal P R cx ops o v a' := by unfold QVal qacts at *; rw [he, hw]; exact h
theorem QVal.unique {o : Oper} {v v' : Value} {a : Act} (h : QVal P R cx ops o v a) (h' : QVal P R cx ops o v' a) {Y : List HL} {w : World} (hs : St cx.w0 cx.S0 R Y w) : v = v' := by
  rcases h with ⟨h1, h2⟩ | ⟨h1, h2⟩ <;> rcases h' with ⟨h3, h4⟩ | ⟨h3, h4⟩
  · exact qacts_agree (h2 Y w hs) (h4 Y w hs)
  · rw [h1] at h3; cases h3
  · rw [h1] at h3; cases h3
  · rw [h2, h4]
def eOp (P : Program) (R : HL) (cx : Cx) (ops : Array Oper) (eff : Bool) (o : Oper) (K : Act → List HL → Prop) (a : Act) (Y : List HL) : Prop :=
  match eff with
  | false => ∃ v, QVal P R cx ops o v a ∧ K (a.put o.dst v) Y
  | true => (Region.wanted o (yielded ops a.tmps) = true ∧ ∀ w, St cx.w0 cx.S0 R Y w → acts P o a w fun a' w' => ∃ Y', (St cx.w0 cx.S0 R Y' w' ∧ Lf Y Y' w w') ∧ K a' Y') ∨
      (Region.wanted o (yielded ops a.tmps) = false ∧ K (a.put o.dst undef) Y)
def SWr (P : Program) (R : HL) (cx : Cx) (ops : Array Oper) (E F : Nat → Bool) (Kf : Act → List HL → Prop) : List Nat → Act → List HL → Prop
  | [] => Kf
  | i :: r => fun a Y => match ops[i]? with
    | none => SWr P R cx ops E F Kf r a Y
    | some o => if F i = true then SWr P R cx ops E F Kf r a Y else eOp P R cx ops (E i) o (SWr P R cx ops E F Kf r) a Y
variable (hsel : ∀ (j : Nat) (o : Oper) cs b, ops[j]? = some o → o.op ≠ .select cs b)
include hsel
theorem extQ {i : Nat} {oi : Oper} (hi : ops[i]? = some oi) (hF : F i = false) (hE : E i = false) : ∀ (A B : List Nat) (a : Act) (Y : List HL) (w : World), (∀ j ∈ A, F j = false → ∀ oj, ops[j]? = some oj → oj.apart ops oi = true) →
    St cx.w0 cx.S0 R Y w → SWr P R cx ops E F Kf (A ++ i :: B) a Y → ∃ v, QVal P R cx ops oi v a ∧ SWr P R cx ops E F Kf (A ++ B) (a.put oi.dst v) Y
  | [], B, a, Y, w, _, _, h => by
    simp only [List.nil_append, SWr, hi, hE, hF, Bool.false_eq_true, if_false, eOp] at h
    exact h
  | j :: A, B, a, Y, w, hap, hs, h => by
    simp only [List.cons_append, SWr] at h ⊢
    cases hj : ops[j]? with
    | none =>
      simp only [hj] at h ⊢
      exact extQ hi hF hE A B a Y w (fun k hk => hap k (by simp [hk])) hs h
    | some oj =>
      simp only [hj] at h ⊢
      have hap' : ∀ k ∈ A, F k = false → ∀ ok, ops[k]? = some ok → ok.apart ops oi = true := fun k hk => hap k (by simp [hk])
      cases hFj : F j with
      | true =>
        simp only [hFj, if_true] at h ⊢
        exact extQ hi hF hE A B a Y w hap' hs h
      | false =>
      simp only [hFj, Bool.false_eq_true, if_false] at h ⊢
      obtain ⟨p1, p2, p3⟩ := Oper.apart_spec (hap j (by simp) hFj oj hj)
      have down : ∀ u v, QVal P R cx ops oi v (a.put oj.dst u) → QVal P R cx ops oi v a := fun u v hq =>
        hq.of_same (execOp_put oi (fun cs b => hsel i oi cs b hi) a oj.dst u p1).symm (wanted_put oi a oj.dst u p1).symm
      have ej : ∀ v, execOp (a.put oi.dst v).eval oj = execOp a.eval oj := fun v => execOp_put oj (fun cs b => hsel j oj cs b hj) a oi.dst v p3
      have wj : ∀ v, Region.wanted oj (yielded ops (a.put oi.dst v).tmps) = Region.wanted oj (yielded ops a.tmps) := fun v => wanted_put oj a oi.dst v p3
      have pc : ∀ u v, (a.put oj.dst u).put oi.dst v = (a.put oi.dst v).put oj.dst u := fun u v => Act.put_comm a u v p2
      cases hEj : E j with
      | false =>
        simp only [hEj, eOp] at h ⊢
        obtain ⟨u, hqu, hK⟩ := h
        obtain ⟨v, hqv, hS⟩ := extQ hi hF hE A B _ Y w hap' hs hK
        exact ⟨v, down u v hqv, u, hqu.of_same (ej v) (wj v), by rw [← pc]; exact hS⟩
      | true =>
        simp only [hEj, eOp] at h ⊢
        rcases h with ⟨hw, hact⟩ | ⟨hw, hK⟩
        · obtain ⟨u, w', Y', hs', hK⟩ := acts_some (hact w hs)
          obtain ⟨v, hqv, _⟩ := extQ hi hF hE A B _ Y' w' hap' hs'.1 hK
          have hqa := down u v hqv
          refine ⟨v, hqa, .inl ⟨by rw [wj]; exact hw, fun w1 hs1 => ?_⟩⟩
          refine acts_of_same (ej v) ?_ (hact w1 hs1)
          rintro u1 w1' ⟨Y1, hs1', hK1⟩
          obtain ⟨v1, hqv1, hS1⟩ := extQ hi hF hE A B _ Y1 w1' hap' hs1'.1 hK1
          have : v1 = v := (down u1 v1 hqv1).unique hqa hs
          subst this
          exact ⟨Y1, hs1', by rw [← pc]; exact hS1⟩
        · obtain ⟨v, hqv, hS⟩ := extQ hi hF hE A B _ Y w hap' hs hK
          exact ⟨v, down undef v hqv, .inr ⟨by rw [wj]; exact hw, by rw [← pc]; exact hS⟩⟩
theorem extE {i : Nat} {oi : Oper} (hi : ops[i]? = some oi) (hF : F i = false) (hE : E i = true) : ∀ (A B : List Nat) (a : Act) (Y : List HL), (∀ j ∈ A, F j = false → E j = false ∧ ∀ oj, ops[j]? = some oj → oj.apart ops oi = true) →
    SWr P R cx ops E F Kf (A ++ i :: B) a Y → eOp P R cx ops true oi (SWr P R cx ops E F Kf (A ++ B)) a Y
  | [], B, a, Y, _, h => by
    simp only [List.nil_append, SWr, hi, hE, hF, Bool.false_eq_true, if_false] at h
    exact h
  | j :: A, B, a, Y, hap, h => by
    simp only [List.cons_append, SWr] at h ⊢
    cases hj : ops[j]? with
    | none =>
      simp only [hj] at h ⊢
      exact extE hi hF hE A B a Y (fun k hk => hap k (by simp [hk])) h
    | some oj =>
      simp only [hj] at h ⊢
      cases hFj : F j with
      | true =>
        simp only [hFj, if_true] at h ⊢
        exact extE hi hF hE A B a Y (fun k hk => hap k (by simp [hk])) h
      | false =>
      simp only [hFj, Bool.false_eq_true, if_false] at h ⊢
      obtain ⟨hEj, hapj⟩ := hap j (by simp) hFj
      obtain ⟨p1, p2, p3⟩ := Oper.apart_spec (hapj oj hj)
      simp only [hEj, eOp] at h ⊢
      obtain ⟨u, hqu, hK⟩ := h
      have ih := extE hi hF hE A B _ Y (fun k hk => hap k (by simp [hk])) hK
      have ei : execOp (a.put oj.dst u).eval oi = execOp a.eval oi := execOp_put oi (fun cs b => hsel i oi cs b hi) a oj.dst u p1
      have wi : Region.wanted oi (yielded ops (a.put oj.dst u).tmps) = Region.wanted oi (yielded ops a.tmps) := wanted_put oi a oj.dst u p1
      have qj : ∀ v, QVal P R cx ops oj u (a.put oi.dst v) := fun v => hqu.of_same (execOp_put oj (fun cs b => hsel j oj cs b hj) a oi.dst v p3) (wanted_put oj a oi.dst v p3)
      have pc : ∀ v, (a.put oj.dst u).put oi.dst v = (a.put oi.dst v).put oj.dst u := fun v => Act.put_comm a u v p2
      simp only [eOp] at ih
      rcases ih with ⟨hw, hact⟩ | ⟨hw, hS⟩
      · refine .inl ⟨by rw [← wi]; exact hw, fun w hs => ?_⟩
        refine acts_of_same ei.symm ?_ (hact w hs)
        rintro v w' ⟨Y', hs', hS⟩
        exact ⟨Y', hs', u, qj v, by rw [← pc]; exact hS⟩
      · exact .inr ⟨by rw [← wi]; exact hw, u, qj undef, by rw [← pc]; exact hS⟩
omit hsel
def maskOf (acc : List Nat) (o : Oper) : Nat := o.after.toList.foldl (fun s e => if Region.binds .any e then s ||| (2 ^ e.on ||| acc.getD e.on 0) else s) 0
def masks : List Oper → List Nat → List Nat
  | [], acc => acc
  | o :: l, acc => masks l (acc ++ [maskOf acc o])
theorem foldl_mask (acc : List Nat) (j : Nat) : ∀ (es : List Edge) (s : Nat), (es.foldl (fun s e => if Region.binds .any e then s ||| (2 ^ e.on ||| acc.getD e.on 0) else s) s).testBit j = true →
    s.testBit j = true ∨ ∃ e ∈ es, Region.binds .any e = true ∧ (e.on = j ∨ (acc.getD e.on 0).testBit j = true)
  | [], s, h => .inl h
  | e :: es, s, h => by
    simp only [List.foldl_cons] at h
    rcases foldl_mask acc j es _ h with h1 | ⟨e', he', h1⟩
    · split at h1
      · rename_i hb
        simp only [Nat.testBit_or, Bool.or_eq_true, Nat.testBit_two_pow, decide_eq_true_eq] at h1
        rcases h1 with h1 | h1 | h1
        · exact .inl h1
        · exact .inr ⟨e, by simp, hb, .inl h1⟩
        · exact .inr ⟨e, by simp, hb, .inr h1⟩
      · exact .inl h1
    · exact .inr ⟨e', by simp [he'], h1⟩
theorem masks_get : ∀ (l : List Oper) (acc : List Nat) (i : Nat) , i < acc.length → (masks l acc)[i]? = acc[i]?
  | [], _, _, _ => rfl
  | o :: l, acc, i, hi => by rw [masks, masks_get l _ i (by simp; omega), List.getElem?_append_left hi]
theorem masks_at : ∀ (l : List Oper) (acc : List Nat) (i : Nat) (o : Oper), l[i]? = some o → ∃ acc' : List Nat, (masks l acc)[acc.length + i]? = some (maskOf acc' o) ∧ ∀ k, k < acc.length + i → acc'[k]? = (masks l acc)[k]?
  | [], _, _, _, h => by simp at h
  | o' :: l, acc, 0, o, h => by
    simp at h
    subst h
    refine ⟨acc, ?_, fun k hk => ?_⟩
    · rw [masks, masks_get _ _ _ (by simp)]; simp
    · rw [masks, masks_get _ _ _ (by simp at hk ⊢; omega), List.getElem?_append_left (by omega)]
  | o' :: l, acc, i + 1, o, h => by
    obtain ⟨acc', h1, h2⟩ := masks_at l (acc ++ [maskOf acc o']) i o (by simpa using h)
    refine ⟨acc', ?_, fun k hk => ?_⟩
    · rw [masks, ← h1]; congr 1; simp; omega
    · rw [masks]; exact h2 k (by simp; omega)
def low (ops : Array Oper) : Bool := (List.range ops.size).all fun i => match ops[i]? with | none => true | some o => o.after.all fun e => !Region.binds .any e || decide (e.on < i)
def waits (ops : Array Oper) (i j : Nat) : Bool := ((masks ops.toList []).getD i 0).testBit j
theorem waits_listed {listed : Array Bool} (hlow : low ops = true) (hdown : ∀ i o, ops[i]? = some o → listed.getD i true = true → ∀ e ∈ o.after, Region.binds .any e = true → listed.getD e.on false = true) :
    ∀ (i j : Nat) (o : Oper), ops[i]? = some o → (∀ e ∈ o.after, Region.binds .any e = true → listed.getD e.on false = true) → waits ops i j = true → listed.getD j false = true := by
  intro i
  induction i using Nat.strongRecOn with
  | _ i ih =>
    intro j o ho hdeps hw
    obtain ⟨acc', h1, h2⟩ := masks_at ops.toList [] i o (by simpa using ho)
    simp only [List.length_nil, Nat.zero_add] at h1 h2
    unfold waits at hw
    rw [List.getD_eq_getElem?_getD, h1] at hw
    simp only [Option.getD_some, maskOf] at hw
    rcases foldl_mask acc' j _ _ hw with h3 | ⟨e, he, hb, h3⟩
    · simp at h3
    · have hem : e ∈ o.after := by simpa using he
      have hl := hdeps e hem hb
      rcases h3 with rfl | h3
      · exact hl
      · have hlt : e.on < i := by
          have := List.all_eq_true.1 hlow i (by simp; exact (Array.getElem?_eq_some_iff.1 ho).1)
          simp only [ho] at this
          have := Array.all_eq_true_iff_forall_mem.1 this e hem
          simpa [hb] using this
        have hon : e.on < ops.size := by have := (Array.getElem?_eq_some_iff.1 ho).1; omega
        have ho2 : ops[e.on]? = some ops[e.on] := Array.getElem?_eq_getElem hon
        have hl2 : listed.getD e.on true = true := by
          simp only [Array.getD_eq_getD_getElem?] at hl ⊢
          cases hx : listed[e.on]? with
          | none => simp
          | some b => rw [hx] at hl; simpa using hl
        refine ih e.on hlt j _ ho2 (hdown e.on _ ho2 hl2) ?_
        unfold waits
        rw [List.getD_eq_getElem?_getD, ← h2 e.on hlt, ← List.getD_eq_getElem?_getD]
        exact h3
def drawB (ops : Array Oper) (E : Nat → Bool) (N : Nat) : Bool :=
  low ops && Region.noSelect ops && decide (N ≤ ops.size) &&
  ((List.range N).all fun i => (List.range i).all fun j => waits ops i j || (match ops[j]?, ops[i]? with | some oj, some oi => oj.apart ops oi && !(E i && E j) | _, _ => false)) &&
  ((List.range ops.size).all fun i => decide (i < N) || (List.range N).all fun j => waits ops i j) &&
  Region.seqB .any ops (ops.size - N) N (((List.replicate N true) ++ (List.replicate (ops.size - N) false)).toArray)
structure Good (ops : Array Oper) (N : Nat) (rem : List Nat) (listed : Array Bool) : Prop where
  sz : listed.size = ops.size
  sorted : rem.Pairwise (· < ·)
  lt : ∀ i ∈ rem, i < N
  un : ∀ i, i < N → (listed.getD i true = false ↔ i ∈ rem)
  tl : ∀ i, N ≤ i → i < ops.size → listed.getD i true = false
  down : ∀ i o, ops[i]? = some o → listed.getD i true = true → ∀ e ∈ o.after, Region.binds .any e = true → listed.getD e.on false = true
theorem getD_tf {listed : Array Bool} {i : Nat} (hi : i < listed.size) (b : Bool) : listed.getD i b = listed[i] := by simp [Array.getD, hi]
inductive Kd | b (e : Bool) | f
def Kd.act : Kd → Bool
  | .b e => e
  | .f => false
def Kd.fl : Kd → Bool
  | .b _ => false
  | .f => true
def putO (a : Act) : List (Nat × Obj) → (Nat → Option Nat) → Act
  | [], _ => a
  | (d, _) :: r, β => match β d with
    | some b => (putO a r β).put (some d) (.pointer (some ⟨b, 0, none⟩))
    | none => putO a r β
def zO : List (Nat × Obj) → (Nat → Option Nat) → HL
  | [], _ => []
  | (d, o) :: r, β => match β d with
    | some b => (b, o) :: zO r β
    | none => zO r β
def putT (a : Act) : List (Nat × Obj) → (Nat → Nat) → Act
  | [], _ => a
  | (d, _) :: r, β => (putT a r β).put (some d) (.pointer (some ⟨β d, 0, none⟩))
def zT : List (Nat × Obj) → (Nat → Nat) → HL
  | [], _ => []
  | (d, o) :: r, β => (β d, o) :: zT r β
theorem putO_exec {o : Oper} (ho : ∀ cs b, o.op ≠ .select cs b) {a : Act} {β : Nat → Option Nat} : ∀ {fl : List (Nat × Obj)}, (∀ q ∈ fl, q.1 ∉ o.looksAt ops) → execOp (putO a fl β).eval o = execOp a.eval o
  | [], _ => rfl
  | (d, _) :: r, h => by
    have ih := putO_exec ho (a := a) (β := β) (fl := r) (fun q hq => h q (by simp [hq]))
    simp only [putO]
    split
    · rw [execOp_put (ops := ops) o ho _ (some d) _ (fun d' hd => by cases hd; exact h _ List.mem_cons_self), ih]
    · exact ih
theorem putO_wanted {o : Oper} {a : Act} {β : Nat → Option Nat} : ∀ {fl : List (Nat × Obj)}, (∀ q ∈ fl, q.1 ∉ o.looksAt ops) → Region.wanted o (yielded ops (putO a fl β).tmps) = Region.wanted o (yielded ops a.tmps)
  | [], _ => rfl
  | (d, _) :: r, h => by
    have ih := putO_wanted (o := o) (a := a) (β := β) (fl := r) (fun q hq => h q (by simp [hq]))
    simp only [putO]
    split
    · rw [wanted_put o _ (some d) _ (fun d' hd => by cases hd; exact h _ List.mem_cons_self), ih]
    · exact ih
theorem putO_put {a : Act} {β : Nat → Option Nat} {dst : Option Nat} {v : Value} : ∀ {fl : List (Nat × Obj)}, (∀ q ∈ fl, dst ≠ some q.1) → (putO a fl β).put dst v = putO (a.put dst v) fl β
  | [], _ => rfl
  | (d, _) :: r, h => by
    have ih := putO_put (a := a) (β := β) (dst := dst) (v := v) (fl := r) (fun q hq => h q (by simp [hq]))
    simp only [putO]
    split
    · rw [Act.put_comm _ _ _ (fun d' hd => by cases hd; exact h _ List.mem_cons_self), ih]
    · exact ih
theorem putO_same {a : Act} {β β' : Nat → Option Nat} : ∀ {fl : List (Nat × Obj)}, (∀ q ∈ fl, β q.1 = β' q.1) → putO a fl β = putO a fl β' ∧ zO fl β = zO fl β'
  | [], _ => ⟨rfl, rfl⟩
  | (d, o) :: r, h => by
    have ih := putO_same (a := a) (β := β) (β' := β') (fl := r) (fun q hq => h q (by simp [hq]))
    have h0 : β d = β' d := h (d, o) (by simp)
    simp only [putO, zO, h0, ih.1, ih.2, and_self]
def setB (β : Nat → Option Nat) (d b : Nat) : Nat → Option Nat := fun k => if k = d then some b else β k
theorem putO_new {a : Act} {β : Nat → Option Nat} {d b : Nat} {o : Obj} : ∀ {fl : List (Nat × Obj)}, (fl.map (·.1)).Nodup → (d, o) ∈ fl → β d = none →
    (putO a fl β).put (some d) (.pointer (some ⟨b, 0, none⟩)) = putO a fl (setB β d b) ∧ (zO fl (setB β d b)).Perm ((b, o) :: zO fl β)
  | [], _, h, _ => by cases h
  | (d', o') :: r, hn, hm, hb => by
    simp only [List.map_cons, List.nodup_cons] at hn
    by_cases hd : d' = d
    · subst hd
      have hr : ∀ q ∈ r, β q.1 = setB β d' b q.1 := fun q hq => by
        unfold setB
        rw [if_neg]
        rintro rfl
        exact hn.1 (List.mem_map_of_mem (f := (·.1)) hq)
      have ho : o' = o := by
        rcases List.mem_cons.1 hm with h | h
        · cases h; rfl
        · exact absurd (List.mem_map_of_mem (f := (·.1)) h) hn.1
      have e := putO_same (a := a) hr
      have e1 : setB β d' b d' = some b := by simp [setB]
      simp only [putO, zO, hb, e1, ← e.1, ← e.2, ho]
      exact ⟨trivial, List.Perm.refl _⟩
    · have hm' : (d, o) ∈ r := by
        rcases List.mem_cons.1 hm with h | h
        · cases h; exact absurd rfl hd
        · exact h
      have ih := putO_new (a := a) (b := b) hn.2 hm' hb
      have e1 : setB β d b d' = β d' := by simp [setB, hd]
      simp only [putO, zO, e1]
      split
      · rw [← ih.1]
        refine ⟨Act.put_comm _ _ _ (fun d2 h2 => by cases h2; intro h3; cases h3; exact hd rfl), ?_⟩
        exact (List.Perm.cons _ ih.2).trans (List.Perm.swap _ _ _)
      · exact ih
theorem putO_all {a : Act} {β : Nat → Option Nat} : ∀ {fl : List (Nat × Obj)}, (∀ q ∈ fl, β q.1 ≠ none) → putO a fl β = putT a fl (fun d => (β d).getD 0) ∧ zO fl β = zT fl (fun d => (β d).getD 0)
  | [], _ => ⟨rfl, rfl⟩
  | (d, o) :: r, h => by
    have ih := putO_all (a := a) (β := β) (fl := r) (fun q hq => h q (by simp [hq]))
    obtain ⟨b, hb⟩ := Option.ne_none_iff_exists'.1 (h (d, o) (by simp))
    simp only [putO, zO, putT, zT, hb, ih.1, ih.2, Option.getD_some, and_self]
theorem putO_none {a : Act} : ∀ {fl : List (Nat × Obj)}, putO a fl (fun _ => none) = a ∧ zO fl (fun _ => none) = []
  | [] => ⟨rfl, rfl⟩
  | (d, o) :: r => by have ih := putO_none (a := a) (fl := r); simp only [putO, zO, ih.1, ih.2, and_self]
theorem St.z {w0 w : World} {S0 : List Nat} {Z : HL} {Y : List HL} (hs : St w0 S0 R (Z :: Y) w) : St w0 S0 R Y w := hs.perm (M := Y) (X := Z) (by simp only [List.flatten_cons]; exact List.perm_append_comm)
theorem St.lf {w0 w w' : World} {S0 : List Nat} {Z : HL} {Y Y' : List HL} (hs : St w0 S0 R (Z :: Y) w) (h' : St w0 S0 R Y' w') (hl : Lf Y Y' w w') : St w0 S0 R (Z :: Y') w' := by
  have hnd : (ids Z ++ ids Y.flatten).Nodup := by have := hs.nd; simpa [ids] using this
  obtain ⟨n1, n2, n3⟩ := List.nodup_append.1 hnd
  have hz : ∀ p ∈ Z, p.1 < w.heap.size ∧ p.1 ∉ ids Y.flatten ∧ w.heap[p.1]? = some p.2 := by
    intro p hp
    have h1 := hs.has p (by simp [hp])
    exact ⟨(Array.getElem?_eq_some_iff.1 h1).1, fun hm => n3 _ (List.mem_map_of_mem (f := (·.1)) hp) _ hm rfl, h1⟩
  refine ⟨?_, ?_, h'.fr, ?_, h'.sz, h'.ro, h'.env⟩
  · intro p hp
    simp only [List.flatten_cons, List.mem_append] at hp
    rcases hp with hp | hp
    · obtain ⟨h1, h2, h3⟩ := hz p hp
      rw [hl.2.1 _ h1 h2]; exact h3
    · exact h'.has p hp
  · simp only [List.flatten_cons, ids, List.map_append]
    refine List.nodup_append.2 ⟨n1, h'.nd, fun x hx y hy e => ?_⟩
    subst e
    obtain ⟨p, hp, rfl⟩ := List.mem_map.1 hx
    obtain ⟨h1, h2, -⟩ := hz p hp
    rcases hl.2.2 _ hy with h | h
    · exact h2 h
    · omega
  · intro b hb
    simp only [List.flatten_cons, ids, List.map_append, List.mem_append] at hb
    rcases hb with hb | hb
    · exact hs.own b (by simp [ids, hb])
    · exact h'.own b hb
structure FlOk (P : Program) (ops : Array Oper) (F : Nat → Bool) (N : Nat) (fl : List (Nat × Obj)) : Prop where
  nd : (fl.map (·.1)).Nodup
  new : ∀ i, i < N → F i = true → ∃ oi d o, ops[i]? = some oi ∧ oi.dst = some d ∧ oi.guard = none ∧ (d, o) ∈ fl ∧ ∀ (a : Act) (w : World), ∃ m, (execOp a.eval oi).run P w = .ok (.value (.pointer (some ⟨w.heap.size, 0, none⟩))) ({ w with drawn := m }.alloc o)
  apart : ∀ i, i < N → F i = false → ∀ oi, ops[i]? = some oi → ∀ q ∈ fl, q.1 ∉ oi.looksAt ops ∧ oi.dst ≠ some q.1
  inj : ∀ i j, i < N → j < N → F i = true → F j = true → ∀ oi oj, ops[i]? = some oi → ops[j]? = some oj → oi.dst = oj.dst → i = j
  all : ∀ q ∈ fl, ∃ i, i < N ∧ F i = true ∧ ∃ oi, ops[i]? = some oi ∧ oi.dst = some q.1
theorem any_of_swr {N : Nat} {Q : Exit → Act → World → Prop} {fl : List (Nat × Obj)} (hfl : FlOk P ops F N fl) (hB : drawB ops E N = true)
    (hK : ∀ a Y β w, Kf a Y → St cx.w0 cx.S0 R (zT fl β :: Y) w → wpList P ops Q (ops.toList.drop N) (putT a fl β) w) : ∀ (m : Nat) (rem : List Nat) (listed : Array Bool) (a : Act) (Y : List HL) (β : Nat → Option Nat) (w : World), rem.length = m → Good ops N rem listed →
      (∀ i, i < N → F i = true → ∀ oi d, ops[i]? = some oi → oi.dst = some d → (i ∈ rem ↔ β d = none)) →
      St cx.w0 cx.S0 R (zO fl β :: Y) w → SWr P R cx ops E F Kf rem a Y → wpAny P .any ops Q (m + (ops.size - N)) listed (putO a fl β) w := by
  simp only [drawB, Bool.and_eq_true, decide_eq_true_eq] at hB
  obtain ⟨⟨⟨⟨⟨hlow, hns⟩, hN⟩, hpair⟩, htail⟩, hseq⟩ := hB
  have hsel := Region.noSelect_spec hns
  intro m
  induction m with
  | zero =>
    intro rem listed a Y β w hm hg hβ hs h
    have hr : rem = [] := List.eq_nil_of_length_eq_zero hm
    subst hr
    have hl : listed = ((List.replicate N true) ++ (List.replicate (ops.size - N) false)).toArray := by
      apply Array.ext
      · simp [hg.sz]; omega
      · intro i h1 h2
        by_cases hi : i < N
        · have := (hg.un i hi)
          rw [getD_tf h1] at this
          simp only [List.not_mem_nil, iff_false, Bool.not_eq_false] at this
          simp [this, hi]
        · have := hg.tl i (by omega) (by rw [← hg.sz]; exact h1)
          rw [getD_tf h1] at this
          simp only [this, List.getElem_toArray]
          rw [List.getElem_append_right (by simp; omega)]
          simp
    have hall := putO_all (a := a) (β := β) (fl := fl) (fun q hq => by
      obtain ⟨i, hi, hFi, oi, ho, hd⟩ := hfl.all q hq
      intro hn
      have := (hβ i hi hFi oi q.1 ho hd).2 hn
      cases this)
    rw [hall.2] at hs
    rw [hall.1]
    have hwl := hK a Y _ w h hs
    have hlen : (ops.toList.drop N).length = ops.size - N := by simp
    have := wpAny_of_seq (md := .any) (Q' := Q) (ops.toList.drop N) N listed _ w (fun j => by simp [List.getElem?_drop]) (by rw [hlen, hl]; exact hseq) hwl
    rw [hlen] at this
    rw [Nat.zero_add]
    exact this
  | succ m ih =>
    intro rem listed a Y β w hm hg hβ hs h
    have hready : ∀ i, i ∈ Region.ready .any ops listed → i ∈ rem := by
      intro i hi
      obtain ⟨h1, o, ho, hdeps⟩ := mem_ready.1 hi
      have hisz := (Array.getElem?_eq_some_iff.1 ho).1
      by_cases hiN : i < N
      · exact (hg.un i hiN).1 h1
      · exfalso
        obtain ⟨j, hj⟩ : ∃ j, j ∈ rem := by cases rem with | nil => simp at hm | cons x r => exact ⟨x, by simp⟩
        have hw := List.all_eq_true.1 htail i (by simpa using hisz)
        simp only [Bool.or_eq_true, decide_eq_true_eq] at hw
        have hw2 := List.all_eq_true.1 (hw.resolve_left hiN) j (by simpa using hg.lt j hj)
        have h3 := waits_listed hlow hg.down i j o ho hdeps hw2
        have h4 := (hg.un j (hg.lt j hj)).2 hj
        have hjs : j < listed.size := by have := hg.lt j hj; have := hg.sz; omega
        rw [getD_tf hjs] at h3 h4
        rw [h3] at h4; cases h4
    rw [show m + 1 + (ops.size - N) = (m + (ops.size - N)) + 1 from by omega]
    refine ⟨fun h0 => ?_, fun i hi => ?_⟩
    · exfalso
      cases rem with
      | nil => simp at hm
      | cons i0 r =>
        have hi0N := hg.lt i0 (by simp)
        have hi0 : i0 < ops.size := by omega
        have : i0 ∈ Region.ready .any ops listed := by
          refine mem_ready.2 ⟨(hg.un i0 hi0N).2 (by simp), ops[i0], Array.getElem?_eq_getElem hi0, fun e he hb => ?_⟩
          have hl := List.all_eq_true.1 hlow i0 (by simpa using hi0)
          simp only [Array.getElem?_eq_getElem hi0] at hl
          have hl2 := Array.all_eq_true_iff_forall_mem.1 hl e he
          simp only [hb, Bool.not_true, Bool.false_or, decide_eq_true_eq] at hl2
          have hnot : e.on ∉ i0 :: r := by
            intro hm'
            rcases List.mem_cons.1 hm' with h' | h'
            · omega
            · have := (List.pairwise_cons.1 hg.sorted).1 e.on h'
              omega
          have h5 := (hg.un e.on (by omega))
          have hes : e.on < listed.size := by rw [hg.sz]; omega
          rw [getD_tf hes] at h5 ⊢
          cases hx : listed[e.on] with
          | true => rfl
          | false => exact absurd (h5.1 hx) hnot
        rw [h0] at this; cases this
    · obtain ⟨h1, oi, hoi, hdeps⟩ := mem_ready.1 hi
      obtain ⟨A, B, hAB⟩ := List.append_of_mem (hready i hi)
      have hiN := hg.lt i (hready i hi)
      have hsz : i < listed.size := by rw [hg.sz]; omega
      have hA : ∀ j ∈ A, j < i ∧ j ∈ rem := by
        intro j hj
        have := hg.sorted
        rw [hAB, List.pairwise_append] at this
        exact ⟨this.2.2 j hj i (by simp), by rw [hAB]; simp [hj]⟩
      have hpr : ∀ j ∈ A, (∀ oj, ops[j]? = some oj → oj.apart ops oi = true) ∧ (E i && E j) = false := by
        intro j hj
        obtain ⟨hji, hjr⟩ := hA j hj
        have hp := List.all_eq_true.1 (List.all_eq_true.1 hpair i (by simpa using hiN)) j (by simpa using hji)
        rcases Bool.or_eq_true _ _ ▸ hp with hp | hp
        · exfalso
          have h3 := waits_listed hlow hg.down i j oi hoi hdeps hp
          have h4 := (hg.un j (hg.lt j hjr)).2 hjr
          have hjs : j < listed.size := by have := hg.lt j hjr; have := hg.sz; omega
          rw [getD_tf hjs] at h3 h4
          rw [h3] at h4; cases h4
        · rw [hoi] at hp
          split at hp
          · rename_i oj oi' hoj hoi'
            cases hoi'
            simp only [Bool.and_eq_true, Bool.not_eq_true'] at hp
            exact ⟨fun oj' ho' => by rw [hoj] at ho'; cases ho'; exact hp.1, hp.2⟩
          · cases hp
      have hg' : Good ops N (A ++ B) (listed.setIfInBounds i true) := by
        have hnd : rem.Nodup := hg.sorted.imp (fun h => by omega)
        refine ⟨by simp [hg.sz], ?_, ?_, ?_, ?_, ?_⟩
        · have := hg.sorted
          rw [hAB] at this
          exact this.sublist (List.Sublist.append (List.Sublist.refl A) (List.sublist_cons_self i B))
        · intro j hj; exact hg.lt j (by rw [hAB]; rcases List.mem_append.1 hj with h | h <;> simp [h])
        · intro j hjN
          have hjs : j < listed.size := by have := hg.sz; omega
          have h5 := hg.un j hjN
          rw [getD_tf hjs] at h5
          rw [getD_tf (by simpa using hjs), Array.getElem_setIfInBounds (by simpa using hjs)]
          by_cases hij : i = j
          · subst hij
            rw [if_pos rfl]
            rw [hAB, List.nodup_append] at hnd
            simp only [Bool.true_eq_false, false_iff, List.mem_append, not_or]
            exact ⟨fun hm => hnd.2.2 i hm i (by simp) rfl, (List.nodup_cons.1 hnd.2.1).1⟩
          · rw [if_neg hij, h5, hAB]
            simp only [List.mem_append, List.mem_cons]
            constructor
            · rintro (h | h | h)
              · exact .inl h
              · exact absurd h.symm hij
              · exact .inr h
            · rintro (h | h)
              · exact .inl h
              · exact .inr (.inr h)
        · intro j hjN hjs
          have hjs' : j < listed.size := by rw [hg.sz]; exact hjs
          have := hg.tl j hjN hjs
          rw [getD_tf hjs'] at this
          rw [getD_tf (by simpa using hjs'), Array.getElem_setIfInBounds (by simpa using hjs'), if_neg (by omega)]
          exact this
        · intro j o ho hlj e he hb
          have hjs : j < listed.size := by rw [hg.sz]; exact (Array.getElem?_eq_some_iff.1 ho).1
          have keep : listed.getD e.on false = true → (listed.setIfInBounds i true).getD e.on false = true := by
            intro hx
            by_cases hes : e.on < listed.size
            · rw [getD_tf hes] at hx
              rw [getD_tf (by simpa using hes), Array.getElem_setIfInBounds (by simpa using hes)]
              split
              · rfl
              · exact hx
            · simp only [Array.getD_eq_getD_getElem?, Array.getElem?_eq_none (Nat.le_of_not_lt hes)] at hx
              simp at hx
          rw [getD_tf (by simpa using hjs), Array.getElem_setIfInBounds (by simpa using hjs)] at hlj
          by_cases hij : i = j
          · subst hij
            rw [hoi] at ho
            cases ho
            exact keep (hdeps e he hb)
          · rw [if_neg hij] at hlj
            exact keep (hg.down j o ho (by rw [getD_tf hjs]; exact hlj) e he hb)
      have hlenAB : (A ++ B).length = m := by rw [hAB] at hm; simp at hm ⊢; omega
      have hnd : rem.Nodup := hg.sorted.imp (fun h => by omega)
      rw [hAB] at h
      unfold wpOp
      rw [hoi]
      cases hFi : F i with
      | true =>
        obtain ⟨oi', d, o, ho', hd, hgu, hmem, hrun⟩ := hfl.new i hiN hFi
        rw [hoi] at ho'
        cases ho'
        have hβd : β d = none := (hβ i hiN hFi oi d hoi hd).1 (by rw [hAB]; simp)
        have hS : SWr P R cx ops E F Kf (A ++ B) a Y := by
          have skip : ∀ (A : List Nat) (a : Act) (Y : List HL), SWr P R cx ops E F Kf (A ++ i :: B) a Y → SWr P R cx ops E F Kf (A ++ B) a Y := by
            intro A
            induction A with
            | nil => intro a Y h; simpa [SWr, hoi, hFi] using h
            | cons j A ihA =>
              intro a Y h
              simp only [List.cons_append, SWr] at h ⊢
              cases hj : ops[j]? with
              | none => simp only [hj] at h ⊢; exact ihA a Y h
              | some oj =>
                simp only [hj] at h ⊢
                split at h
                · rename_i hFj; rw [if_pos hFj]; exact ihA a Y h
                · rename_i hFj
                  rw [if_neg hFj]
                  cases hEj : E j with
                  | false =>
                    simp only [hEj, eOp] at h ⊢
                    obtain ⟨v, hq, hh⟩ := h
                    exact ⟨v, hq, ihA _ _ hh⟩
                  | true =>
                    simp only [hEj, eOp] at h ⊢
                    rcases h with ⟨h1, h2⟩ | ⟨h1, h2⟩
                    · refine .inl ⟨h1, fun w hs => acts_mono ?_ (h2 w hs)⟩
                      rintro v w' ⟨Y', hs', hh⟩
                      exact ⟨Y', hs', ihA _ _ hh⟩
                    · exact .inr ⟨h1, ihA _ _ h2⟩
          exact skip A a Y h
        obtain ⟨mm, hr⟩ := hrun (putO a fl β) w
        have hw : Region.wanted oi (yielded ops (putO a fl β).tmps) = true := by simp [Region.wanted, hgu]
        simp only [hw, if_true]
        refine .inl ?_
        unfold Oper.wp
        rw [hr]
        have hnew := putO_new (a := a) (b := w.heap.size) hfl.nd hmem hβd
        show wpAny P .any ops Q (m + (ops.size - N)) (listed.setIfInBounds i true) ((putO a fl β).put oi.dst (.pointer (some ⟨w.heap.size, 0, none⟩))) _
        rw [hd, hnew.1]
        have hs0 : St cx.w0 cx.S0 R (zO fl β :: Y) { w with drawn := mm } := hs.drawn mm
        have hs1 : St cx.w0 cx.S0 R (zO fl (setB β d w.heap.size) :: Y) ({ w with drawn := mm }.alloc o) := by
          refine (hs0.new o).perm (X := []) ?_
          simp only [List.flatten_cons, List.append_nil]
          rw [← List.append_assoc]
          exact List.Perm.append_right _ (by simpa using hnew.2.symm)
        refine ih (A ++ B) _ a Y (setB β d w.heap.size) _ hlenAB hg' ?_ hs1 hS
        intro i' hi' hFi' oi' d' ho' hd'
        by_cases hdd : d' = d
        · subst hdd
          have hii : i' = i := hfl.inj i' i hi' hiN hFi' hFi oi' oi ho' hoi (by rw [hd', hd])
          subst hii
          simp only [setB, if_true, reduceCtorEq, iff_false]
          rw [hAB, List.nodup_append] at hnd
          simp only [List.mem_append, not_or]
          exact ⟨fun hm => hnd.2.2 i' hm i' (by simp) rfl, (List.nodup_cons.1 hnd.2.1).1⟩
        · have hne : i' ≠ i := by rintro rfl; rw [hoi] at ho'; cases ho'; rw [hd] at hd'; cases hd'; exact hdd rfl
          have e1 : setB β d w.heap.size d' = β d' := by simp [setB, hdd]
          rw [e1, ← hβ i' hi' hFi' oi' d' ho' hd', hAB]
          simp [hne]
      | false =>
      have hap := hfl.apart i hiN hFi oi hoi
      have ho1 : ∀ cs b, oi.op ≠ .select cs b := fun cs b => hsel i oi cs b hoi
      have hex := putO_exec ho1 (a := a) (β := β) (fl := fl) (fun q hq => (hap q hq).1)
      have hwa := putO_wanted (o := oi) (a := a) (β := β) (fl := fl) (fun q hq => (hap q hq).1)
      have hpu : ∀ v, (putO a fl β).put oi.dst v = putO (a.put oi.dst v) fl β := fun v => putO_put (fun q hq => (hap q hq).2)
      have hβ' : ∀ i', i' < N → F i' = true → ∀ oi' d', ops[i']? = some oi' → oi'.dst = some d' → (i' ∈ A ++ B ↔ β d' = none) := by
        intro i' hi' hFi' oi' d' ho' hd'
        have hne : i' ≠ i := by rintro rfl; rw [hFi] at hFi'; cases hFi'
        rw [← hβ i' hi' hFi' oi' d' ho' hd', hAB]
        simp [hne]
      cases hE : E i with
      | false =>
        obtain ⟨v, hq, hS⟩ := extQ hsel hoi hFi hE A B a Y w (fun j hj _ => (hpr j hj).1) hs.z h
        rcases hq with ⟨hw, hrun⟩ | ⟨hw, rfl⟩
        · simp only [hwa, hw, if_true]
          have hrun' : qacts P oi (putO a fl β) w v fun w' => St cx.w0 cx.S0 R Y w' ∧ Lf Y Y w w' := by
            have := hrun Y w hs.z
            unfold qacts at this ⊢
            rw [hex]
            exact this
          refine .inl (qacts_wp hrun' ?_)
          rintro w' ⟨hs', hlf⟩
          rw [hpu]
          exact ih (A ++ B) _ (a.put oi.dst v) Y β w' hlenAB hg' hβ' (hs.lf hs' hlf) hS
        · simp only [hwa, hw, Bool.false_eq_true, if_false]
          rw [hpu]
          exact ih (A ++ B) _ (a.put oi.dst undef) Y β w hlenAB hg' hβ' hs hS
      | true =>
        have he := extE hsel hoi hFi hE A B a Y (fun j hj _ => by have := hpr j hj; rw [hE, Bool.true_and] at this; exact ⟨this.2, this.1⟩) h
        simp only [eOp] at he
        rcases he with ⟨hw, hact⟩ | ⟨hw, hS⟩
        · simp only [hwa, hw, if_true]
          refine .inl (acts_wp (acts_of_same hex ?_ (hact w hs.z)))
          rintro v w' ⟨Y', ⟨hs', hlf⟩, hS⟩
          rw [hpu]
          exact ih (A ++ B) _ _ Y' β w' hlenAB hg' hβ' (hs.lf hs' hlf) hS
        · simp only [hwa, hw, Bool.false_eq_true, if_false]
          rw [hpu]
          exact ih (A ++ B) _ _ Y β w hlenAB hg' hβ' hs hS
theorem swr_quiet {Kf1 Kf2 : Act → List HL → Prop} {fl : List (Nat × Obj)} {β : Nat → Nat} {post : List Nat} (hq : ∀ (j : Nat) (o : Oper) cs b, ops[j]? = some o → o.op ≠ .select cs b)
    (hK : ∀ a Y, Kf1 a Y → SWr P R cx ops E (fun _ => false) Kf2 post (putT a fl β) (zT fl β :: Y)) : ∀ (rem : List Nat) (a : Act) (Y : List HL),
    (∀ j ∈ rem, E j = false ∧ F j = false ∧ ∀ oj, ops[j]? = some oj → ∀ q ∈ fl, q.1 ∉ oj.looksAt ops ∧ oj.dst ≠ some q.1) → SWr P R cx ops E F Kf1 rem a Y → SWr P R cx ops E (fun _ => false) Kf2 (rem ++ post) (putT a fl β) (zT fl β :: Y)
  | [], a, Y, _, h => hK a Y h
  | j :: rem, a, Y, hr, h => by
    obtain ⟨h1, h2, h3⟩ := hr j (by simp)
    simp only [List.cons_append, SWr] at h ⊢
    cases hj : ops[j]? with
    | none =>
      simp only [hj] at h ⊢
      exact swr_quiet hq hK rem a Y (fun k hk => hr k (by simp [hk])) h
    | some oj =>
      have hap := h3 oj hj
      simp only [hj, h1, h2, Bool.false_eq_true, if_false, eOp] at h ⊢
      obtain ⟨v, hqv, hS⟩ := h
      have hall : putO a fl (fun d => some (β d)) = putT a fl β := (putO_all (fl := fl) (β := fun d => some (β d)) (fun _ _ => by simp)).1
      have hex := putO_exec (ops := ops) (fun cs b => hq j oj cs b hj) (a := a) (β := fun d => some (β d)) (fl := fl) (fun q hq => (hap q hq).1)
      have hwa := putO_wanted (ops := ops) (o := oj) (a := a) (β := fun d => some (β d)) (fl := fl) (fun q hq => (hap q hq).1)
      have hpu : (putO a fl (fun d => some (β d))).put oj.dst v = putO (a.put oj.dst v) fl (fun d => some (β d)) := putO_put (fun q hq => (hap q hq).2)
      have hall2 : putO (a.put oj.dst v) fl (fun d => some (β d)) = putT (a.put oj.dst v) fl β := (putO_all (fl := fl) (β := fun d => some (β d)) (fun _ _ => by simp)).1
      rw [hall] at hex hwa hpu
      rw [hall2] at hpu
      exact ⟨v, hqv.of_same hex hwa, by rw [hpu]; exact swr_quiet hq hK rem _ Y (fun k hk => hr k (by simp [hk])) hS⟩
theorem Good.more {N1 N2 : Nat} {rem : List Nat} {listed : Array Bool} (h : Good ops N1 rem listed) (h12 : N1 ≤ N2) (h2 : N2 ≤ ops.size) : Good ops N2 (rem ++ List.range' N1 (N2 - N1)) listed := by
  refine ⟨h.sz, ?_, ?_, ?_, ?_, h.down⟩
  · rw [List.pairwise_append]
    refine ⟨h.sorted, List.pairwise_lt_range', fun x hx y hy => ?_⟩
    have := h.lt x hx
    have := List.mem_range'_1.1 hy
    omega
  · intro i hi
    rcases List.mem_append.1 hi with hi | hi
    · have := h.lt i hi; omega
    · have := List.mem_range'_1.1 hi; omega
  · intro i hi
    by_cases h3 : i < N1
    · rw [h.un i h3, List.mem_append]
      constructor
      · exact .inl
      · rintro (h4 | h4)
        · exact h4
        · have := List.mem_range'_1.1 h4; omega
    · have h4 := h.tl i (by omega) (by omega)
      have h5 : i ∈ rem ++ List.range' N1 (N2 - N1) := List.mem_append.2 (.inr (List.mem_range'_1.2 (by omega)))
      exact ⟨fun _ => h5, fun _ => h4⟩
  · intro i hi hi2
    exact h.tl i (by omega) hi2
def tailB (ops : Array Oper) (E F : Nat → Bool) (N1 : Nat) : Bool :=
  (List.range ops.size).all fun i => decide (i < N1) || (List.range N1).all fun j => !(E j || F j) || waits ops i j
theorem any_of_swrG {N1 N2 : Nat} {Q : Exit → Act → World → Prop} {fl : List (Nat × Obj)} {Kf2 : Act → List HL → Prop} (hfl : FlOk P ops F N1 fl) (h12 : N1 ≤ N2) (hB : drawB ops E N2 = true) (htB : tailB ops E F N1 = true)
    (hK1 : ∀ a Y β, Kf a Y → SWr P R cx ops E (fun _ => false) Kf2 (List.range' N1 (N2 - N1)) (putT a fl β) (zT fl β :: Y))
    (hK : ∀ a Y w, Kf2 a Y → St cx.w0 cx.S0 R ([] :: Y) w → wpList P ops Q (ops.toList.drop N2) a w) : ∀ (m : Nat) (rem : List Nat) (listed : Array Bool) (a : Act) (Y : List HL) (β : Nat → Option Nat) (w : World), rem.length = m → Good ops N1 rem listed →
      (∀ i, i < N1 → F i = true → ∀ oi d, ops[i]? = some oi → oi.dst = some d → (i ∈ rem ↔ β d = none)) →
      St cx.w0 cx.S0 R (zO fl β :: Y) w → SWr P R cx ops E F Kf rem a Y → wpAny P .any ops Q (m + (ops.size - N1)) listed (putO a fl β) w := by
  have hB0 := hB
  simp only [drawB, Bool.and_eq_true, decide_eq_true_eq] at hB
  obtain ⟨⟨⟨⟨⟨hlow, hns⟩, hN⟩, hpair⟩, htail⟩, hseq⟩ := hB
  have hsel := Region.noSelect_spec hns
  have hN1 : N1 ≤ ops.size := by omega
  have fin : ∀ (rem : List Nat) (listed : Array Bool) (a : Act) (Y : List HL) (β : Nat → Option Nat) (w : World), Good ops N1 rem listed → (∀ i, i < N1 → F i = true → ∀ oi d, ops[i]? = some oi → oi.dst = some d → (i ∈ rem ↔ β d = none)) →
      St cx.w0 cx.S0 R (zO fl β :: Y) w → (∀ j ∈ rem, E j = false ∧ F j = false) → SWr P R cx ops E F Kf rem a Y → wpAny P .any ops Q (rem.length + (ops.size - N1)) listed (putO a fl β) w := by
    intro rem listed a Y β w hg hβ hs hqr h
    have hall := putO_all (a := a) (β := β) (fl := fl) (fun q hq => by
      obtain ⟨i, hi, hFi, oi, ho, hd⟩ := hfl.all q hq
      intro hn
      have := hqr i ((hβ i hi hFi oi q.1 ho hd).2 hn)
      rw [hFi] at this
      cases this.2)
    have h2 := swr_quiet (Kf2 := Kf2) (fl := fl) (β := fun d => (β d).getD 0) hsel (fun a Y hh => hK1 a Y _ hh) rem a Y (fun j hj => ⟨(hqr j hj).1, (hqr j hj).2, fun oj hoj => hfl.apart j (hg.lt j hj) (hqr j hj).2 oj hoj⟩) h
    rw [← hall.1, ← hall.2] at h2
    have key := any_of_swr (P := P) (R := R) (cx := cx) (ops := ops) (E := E) (F := fun _ => false) (N := N2) (Q := Q) (fl := []) (Kf := Kf2)
      ⟨List.nodup_nil, (fun _ _ h => by cases h), (fun _ _ _ _ _ q hq => by cases hq), (fun _ _ _ _ h => by cases h), (fun q hq => by cases hq)⟩ hB0 (fun a Y β w hk hs => hK a Y w hk hs) _ (rem ++ List.range' N1 (N2 - N1)) listed (putO a fl β) (zO fl β :: Y) (fun _ => none) w rfl (hg.more h12 hN)
      (fun i _ h => by cases h) (hs.perm (X := []) (by simp [zO])) h2
    have e : (rem ++ List.range' N1 (N2 - N1)).length + (ops.size - N2) = rem.length + (ops.size - N1) := by simp; omega
    rw [e] at key
    exact key
  intro m
  induction m with
  | zero =>
    intro rem listed a Y β w hm hg hβ hs h
    have hr : rem = [] := List.eq_nil_of_length_eq_zero hm
    subst hr
    exact fin [] listed a Y β w hg hβ hs (fun j hj => by cases hj) h
  | succ m ih =>
    intro rem listed a Y β w hm hg hβ hs h
    by_cases hqr : ∀ j ∈ rem, E j = false ∧ F j = false
    · have := fin rem listed a Y β w hg hβ hs hqr h
      rwa [hm] at this
    obtain ⟨j0, hj0, hj0E⟩ : ∃ j0, j0 ∈ rem ∧ (E j0 || F j0) = true := by
      refine Classical.byContradiction fun hn => hqr fun j hj => ?_
      cases h1 : E j <;> cases h2 : F j <;> first | exact ⟨rfl, rfl⟩ | exact absurd ⟨j, hj, by simp [h1, h2]⟩ hn
    have hready : ∀ i, i ∈ Region.ready .any ops listed → i ∈ rem := by
      intro i hi
      obtain ⟨h1, o, ho, hdeps⟩ := mem_ready.1 hi
      have hisz := (Array.getElem?_eq_some_iff.1 ho).1
      by_cases hiN : i < N1
      · exact (hg.un i hiN).1 h1
      · exfalso
        have hw := List.all_eq_true.1 htB i (by simpa using hisz)
        simp only [Bool.or_eq_true, decide_eq_true_eq] at hw
        have hw2 := List.all_eq_true.1 (hw.resolve_left hiN) j0 (by simpa using hg.lt j0 hj0)
        rw [hj0E, Bool.not_true, Bool.false_or] at hw2
        have h3 := waits_listed hlow hg.down i j0 o ho hdeps hw2
        have h4 := (hg.un j0 (hg.lt j0 hj0)).2 hj0
        have hjs : j0 < listed.size := by have := hg.lt j0 hj0; have := hg.sz; omega
        rw [getD_tf hjs] at h3 h4
        rw [h3] at h4; cases h4
    rw [show m + 1 + (ops.size - N1) = (m + (ops.size - N1)) + 1 from by omega]
    refine ⟨fun h0 => ?_, fun i hi => ?_⟩
    · exfalso
      cases rem with
      | nil => simp at hm
      | cons i0 r =>
        have hi0N := hg.lt i0 (by simp)
        have hi0 : i0 < ops.size := by omega
        have : i0 ∈ Region.ready .any ops listed := by
          refine mem_ready.2 ⟨(hg.un i0 hi0N).2 (by simp), ops[i0], Array.getElem?_eq_getElem hi0, fun e he hb => ?_⟩
          have hl := List.all_eq_true.1 hlow i0 (by simpa using hi0)
          simp only [Array.getElem?_eq_getElem hi0] at hl
          have hl2 := Array.all_eq_true_iff_forall_mem.1 hl e he
          simp only [hb, Bool.not_true, Bool.false_or, decide_eq_true_eq] at hl2
          have hnot : e.on ∉ i0 :: r := by
            intro hm'
            rcases List.mem_cons.1 hm' with h' | h'
            · omega
            · have := (List.pairwise_cons.1 hg.sorted).1 e.on h'
              omega
          have h5 := (hg.un e.on (by omega))
          have hes : e.on < listed.size := by rw [hg.sz]; omega
          rw [getD_tf hes] at h5 ⊢
          cases hx : listed[e.on] with
          | true => rfl
          | false => exact absurd (h5.1 hx) hnot
        rw [h0] at this; cases this
    · obtain ⟨h1, oi, hoi, hdeps⟩ := mem_ready.1 hi
      obtain ⟨A, B, hAB⟩ := List.append_of_mem (hready i hi)
      have hiN := hg.lt i (hready i hi)
      have hsz : i < listed.size := by rw [hg.sz]; omega
      have hA : ∀ j ∈ A, j < i ∧ j ∈ rem := by
        intro j hj
        have := hg.sorted
        rw [hAB, List.pairwise_append] at this
        exact ⟨this.2.2 j hj i (by simp), by rw [hAB]; simp [hj]⟩
      have hpr : ∀ j ∈ A, (∀ oj, ops[j]? = some oj → oj.apart ops oi = true) ∧ (E i && E j) = false := by
        intro j hj
        obtain ⟨hji, hjr⟩ := hA j hj
        have hp := List.all_eq_true.1 (List.all_eq_true.1 hpair i (by simp; omega)) j (by simpa using hji)
        rcases Bool.or_eq_true _ _ ▸ hp with hp | hp
        · exfalso
          have h3 := waits_listed hlow hg.down i j oi hoi hdeps hp
          have h4 := (hg.un j (hg.lt j hjr)).2 hjr
          have hjs : j < listed.size := by have := hg.lt j hjr; have := hg.sz; omega
          rw [getD_tf hjs] at h3 h4
          rw [h3] at h4; cases h4
        · rw [hoi] at hp
          split at hp
          · rename_i oj oi' hoj hoi'
            cases hoi'
            simp only [Bool.and_eq_true, Bool.not_eq_true'] at hp
            exact ⟨fun oj' ho' => by rw [hoj] at ho'; cases ho'; exact hp.1, hp.2⟩
          · cases hp
      have hg' : Good ops N1 (A ++ B) (listed.setIfInBounds i true) := by
        have hnd : rem.Nodup := hg.sorted.imp (fun h => by omega)
        refine ⟨by simp [hg.sz], ?_, ?_, ?_, ?_, ?_⟩
        · have := hg.sorted
          rw [hAB] at this
          exact this.sublist (List.Sublist.append (List.Sublist.refl A) (List.sublist_cons_self i B))
        · intro j hj; exact hg.lt j (by rw [hAB]; rcases List.mem_append.1 hj with h | h <;> simp [h])
        · intro j hjN
          have hjs : j < listed.size := by have := hg.sz; omega
          have h5 := hg.un j hjN
          rw [getD_tf hjs] at h5
          rw [getD_tf (by simpa using hjs), Array.getElem_setIfInBounds (by simpa using hjs)]
          by_cases hij : i = j
          · subst hij
            rw [if_pos rfl]
            rw [hAB, List.nodup_append] at hnd
            simp only [Bool.true_eq_false, false_iff, List.mem_append, not_or]
            exact ⟨fun hm => hnd.2.2 i hm i (by simp) rfl, (List.nodup_cons.1 hnd.2.1).1⟩
          · rw [if_neg hij, h5, hAB]
            simp only [List.mem_append, List.mem_cons]
            constructor
            · rintro (h | h | h)
              · exact .inl h
              · exact absurd h.symm hij
              · exact .inr h
            · rintro (h | h)
              · exact .inl h
              · exact .inr (.inr h)
        · intro j hjN hjs
          have hjs' : j < listed.size := by rw [hg.sz]; exact hjs
          have := hg.tl j hjN hjs
          rw [getD_tf hjs'] at this
          rw [getD_tf (by simpa using hjs'), Array.getElem_setIfInBounds (by simpa using hjs'), if_neg (by omega)]
          exact this
        · intro j o ho hlj e he hb
          have hjs : j < listed.size := by rw [hg.sz]; exact (Array.getElem?_eq_some_iff.1 ho).1
          have keep : listed.getD e.on false = true → (listed.setIfInBounds i true).getD e.on false = true := by
            intro hx
            by_cases hes : e.on < listed.size
            · rw [getD_tf hes] at hx
              rw [getD_tf (by simpa using hes), Array.getElem_setIfInBounds (by simpa using hes)]
              split
              · rfl
              · exact hx
            · simp only [Array.getD_eq_getD_getElem?, Array.getElem?_eq_none (Nat.le_of_not_lt hes)] at hx
              simp at hx
          rw [getD_tf (by simpa using hjs), Array.getElem_setIfInBounds (by simpa using hjs)] at hlj
          by_cases hij : i = j
          · subst hij
            rw [hoi] at ho
            cases ho
            exact keep (hdeps e he hb)
          · rw [if_neg hij] at hlj
            exact keep (hg.down j o ho (by rw [getD_tf hjs]; exact hlj) e he hb)
      have hlenAB : (A ++ B).length = m := by rw [hAB] at hm; simp at hm ⊢; omega
      have hnd : rem.Nodup := hg.sorted.imp (fun h => by omega)
      rw [hAB] at h
      unfold wpOp
      rw [hoi]
      cases hFi : F i with
      | true =>
        obtain ⟨oi', d, o, ho', hd, hgu, hmem, hrun⟩ := hfl.new i hiN hFi
        rw [hoi] at ho'
        cases ho'
        have hβd : β d = none := (hβ i hiN hFi oi d hoi hd).1 (by rw [hAB]; simp)
        have hS : SWr P R cx ops E F Kf (A ++ B) a Y := by
          have skip : ∀ (A : List Nat) (a : Act) (Y : List HL), SWr P R cx ops E F Kf (A ++ i :: B) a Y → SWr P R cx ops E F Kf (A ++ B) a Y := by
            intro A
            induction A with
            | nil => intro a Y h; simpa [SWr, hoi, hFi] using h
            | cons j A ihA =>
              intro a Y h
              simp only [List.cons_append, SWr] at h ⊢
              cases hj : ops[j]? with
              | none => simp only [hj] at h ⊢; exact ihA a Y h
              | some oj =>
                simp only [hj] at h ⊢
                split at h
                · rename_i hFj; rw [if_pos hFj]; exact ihA a Y h
                · rename_i hFj
                  rw [if_neg hFj]
                  cases hEj : E j with
                  | false =>
                    simp only [hEj, eOp] at h ⊢
                    obtain ⟨v, hq, hh⟩ := h
                    exact ⟨v, hq, ihA _ _ hh⟩
                  | true =>
                    simp only [hEj, eOp] at h ⊢
                    rcases h with ⟨h1, h2⟩ | ⟨h1, h2⟩
                    · refine .inl ⟨h1, fun w hs => acts_mono ?_ (h2 w hs)⟩
                      rintro v w' ⟨Y', hs', hh⟩
                      exact ⟨Y', hs', ihA _ _ hh⟩
                    · exact .inr ⟨h1, ihA _ _ h2⟩
          exact skip A a Y h
        obtain ⟨mm, hr⟩ := hrun (putO a fl β) w
        have hw : Region.wanted oi (yielded ops (putO a fl β).tmps) = true := by simp [Region.wanted, hgu]
        simp only [hw, if_true]
        refine .inl ?_
        unfold Oper.wp
        rw [hr]
        have hnew := putO_new (a := a) (b := w.heap.size) hfl.nd hmem hβd
        show wpAny P .any ops Q (m + (ops.size - N1)) (listed.setIfInBounds i true) ((putO a fl β).put oi.dst (.pointer (some ⟨w.heap.size, 0, none⟩))) _
        rw [hd, hnew.1]
        have hs0 : St cx.w0 cx.S0 R (zO fl β :: Y) { w with drawn := mm } := hs.drawn mm
        have hs1 : St cx.w0 cx.S0 R (zO fl (setB β d w.heap.size) :: Y) ({ w with drawn := mm }.alloc o) := by
          refine (hs0.new o).perm (X := []) ?_
          simp only [List.flatten_cons, List.append_nil]
          rw [← List.append_assoc]
          exact List.Perm.append_right _ (by simpa using hnew.2.symm)
        refine ih (A ++ B) _ a Y (setB β d w.heap.size) _ hlenAB hg' ?_ hs1 hS
        intro i' hi' hFi' oi' d' ho' hd'
        by_cases hdd : d' = d
        · subst hdd
          have hii : i' = i := hfl.inj i' i hi' hiN hFi' hFi oi' oi ho' hoi (by rw [hd', hd])
          subst hii
          simp only [setB, if_true, reduceCtorEq, iff_false]
          rw [hAB, List.nodup_append] at hnd
          simp only [List.mem_append, not_or]
          exact ⟨fun hm => hnd.2.2 i' hm i' (by simp) rfl, (List.nodup_cons.1 hnd.2.1).1⟩
        · have hne : i' ≠ i := by rintro rfl; rw [hoi] at ho'; cases ho'; rw [hd] at hd'; cases hd'; exact hdd rfl
          have e1 : setB β d w.heap.size d' = β d' := by simp [setB, hdd]
          rw [e1, ← hβ i' hi' hFi' oi' d' ho' hd', hAB]
          simp [hne]
      | false =>
      have hap := hfl.apart i hiN hFi oi hoi
      have ho1 : ∀ cs b, oi.op ≠ .select cs b := fun cs b => hsel i oi cs b hoi
      have hex := putO_exec ho1 (a := a) (β := β) (fl := fl) (fun q hq => (hap q hq).1)
      have hwa := putO_wanted (o := oi) (a := a) (β := β) (fl := fl) (fun q hq => (hap q hq).1)
      have hpu : ∀ v, (putO a fl β).put oi.dst v = putO (a.put oi.dst v) fl β := fun v => putO_put (fun q hq => (hap q hq).2)
      have hβ' : ∀ i', i' < N1 → F i' = true → ∀ oi' d', ops[i']? = some oi' → oi'.dst = some d' → (i' ∈ A ++ B ↔ β d' = none) := by
        intro i' hi' hFi' oi' d' ho' hd'
        have hne : i' ≠ i := by rintro rfl; rw [hFi] at hFi'; cases hFi'
        rw [← hβ i' hi' hFi' oi' d' ho' hd', hAB]
        simp [hne]
      cases hE : E i with
      | false =>
        obtain ⟨v, hq, hS⟩ := extQ hsel hoi hFi hE A B a Y w (fun j hj _ => (hpr j hj).1) hs.z h
        rcases hq with ⟨hw, hrun⟩ | ⟨hw, rfl⟩
        · simp only [hwa, hw, if_true]
          have hrun' : qacts P oi (putO a fl β) w v fun w' => St cx.w0 cx.S0 R Y w' ∧ Lf Y Y w w' := by
            have := hrun Y w hs.z
            unfold qacts at this ⊢
            rw [hex]
            exact this
          refine .inl (qacts_wp hrun' ?_)
          rintro w' ⟨hs', hlf⟩
          rw [hpu]
          exact ih (A ++ B) _ (a.put oi.dst v) Y β w' hlenAB hg' hβ' (hs.lf hs' hlf) hS
        · simp only [hwa, hw, Bool.false_eq_true, if_false]
          rw [hpu]
          exact ih (A ++ B) _ (a.put oi.dst undef) Y β w hlenAB hg' hβ' hs hS
      | true =>
        have he := extE hsel hoi hFi hE A B a Y (fun j hj _ => by have := hpr j hj; rw [hE, Bool.true_and] at this; exact ⟨this.2, this.1⟩) h
        simp only [eOp] at he
        rcases he with ⟨hw, hact⟩ | ⟨hw, hS⟩
        · simp only [hwa, hw, if_true]
          refine .inl (acts_wp (acts_of_same hex ?_ (hact w hs.z)))
          rintro v w' ⟨Y', ⟨hs', hlf⟩, hS⟩
          rw [hpu]
          exact ih (A ++ B) _ _ Y' β w' hlenAB hg' hβ' (hs.lf hs' hlf) hS
        · simp only [hwa, hw, Bool.false_eq_true, if_false]
          rw [hpu]
          exact ih (A ++ B) _ _ Y β w hlenAB hg' hβ' hs hS
variable {n : Nat} {k : List Kont} {ρ : Env} {Y : List HL}
def Marks (ops : Array Oper) (E F : Nat → Bool) (i : Nat) (el : List Kd) (l : List Oper) : Prop := ∀ j, j < l.length → ops[i + j]? = l[j]? ∧ E (i + j) = (el.getD j (.b false)).act ∧ F (i + j) = (el.getD j (.b false)).fl
def KfOf (n : Nat) (fl : List (Nat × Obj)) (K : Env → List HL → Prop) (a : Act) (Y : List HL) : Prop := ∀ β : Nat → Nat, ∃ ρ', Fits n ρ' (putT a fl β) ∧ K ρ' (zT fl β :: Y)
structure WD (P : Program) (n : Nat) (R : HL) (cx : Cx) (ops : Array Oper) (el : List Kd) (fl : List (Nat × Obj)) (l : List Oper) (ρ : Env) (Y : List HL) (K : Env → List HL → Prop) : Prop where
  go : ∀ (E F : Nat → Bool) (i : Nat) (a : Act), Marks ops E F i el l → Fits n ρ a → SWr P R cx ops E F (KfOf n fl K) (List.range' i l.length) a Y
variable {K : Env → List HL → Prop} {el : List Kd} {fl : List (Nat × Obj)}
theorem WD.nil (h : K ρ ([] :: Y)) : WD P n R cx ops el [] [] ρ Y K := ⟨fun _ _ _ _ _ hf _ => ⟨ρ, hf, h⟩⟩
theorem WD.tail_ {e : Kd} {o : Oper} {l : List Oper} {E F : Nat → Bool} {i : Nat} (h : Marks ops E F i (e :: el) (o :: l)) :
    ops[i]? = some o ∧ E i = e.act ∧ F i = e.fl ∧ Marks ops E F (i + 1) el l := by
  refine ⟨by simpa using (h 0 (by simp)).1, by simpa using (h 0 (by simp)).2.1, by simpa using (h 0 (by simp)).2.2, fun j hj => ?_⟩
  have := h (j + 1) (by simpa using hj)
  rw [show i + (j + 1) = i + 1 + j from by omega] at this
  simpa using this
theorem SWr.mono {E F : Nat → Bool} {Kf Kf' : Act → List HL → Prop} (h : ∀ a Y, Kf a Y → Kf' a Y) : ∀ (l : List Nat) (a : Act) (Y : List HL), SWr P R cx ops E F Kf l a Y → SWr P R cx ops E F Kf' l a Y
  | [], a, Y, hh => h a Y hh
  | j :: A, a, Y, hh => by
    simp only [SWr] at hh ⊢
    cases hj : ops[j]? with
    | none => simp only [hj] at hh ⊢; exact SWr.mono h A a Y hh
    | some oj =>
      simp only [hj] at hh ⊢
      split at hh
      · rename_i hFj; rw [if_pos hFj]; exact SWr.mono h A a Y hh
      · rename_i hFj
        rw [if_neg hFj]
        cases hEj : E j with
        | false =>
          simp only [hEj, eOp] at hh ⊢
          obtain ⟨v, hq, h1⟩ := hh
          exact ⟨v, hq, SWr.mono h A _ _ h1⟩
        | true =>
          simp only [hEj, eOp] at hh ⊢
          rcases hh with ⟨h1, h2⟩ | ⟨h1, h2⟩
          · refine .inl ⟨h1, fun w hs => acts_mono ?_ (h2 w hs)⟩
            rintro v w' ⟨Y', hs', h3⟩
            exact ⟨Y', hs', SWr.mono h A _ _ h3⟩
          · exact .inr ⟨h1, SWr.mono h A _ _ h2⟩
theorem WD.float {T : Tab} (hT : TabOk P T) {d : Nat} {t ty : TypeId} {pos : String} {af : Array Edge} {l : List Oper} {z : Value} {zs : List Value} (hz : look? T.zeros t = some z) (hc : cells? z = some zs) (hd : d < n)
    (hk : WD P n R cx ops el fl l ρ Y (fun ρ' Y' => ∀ b, ∀ Z Y2, Y' = Z :: Y2 → K ((d, .pointer (some ⟨b, 0, none⟩)) :: ρ') (((b, .cells zs.toArray t (0, 0)) :: Z) :: Y2))) :
    WD P n R cx ops (.f :: el) ((d, .cells zs.toArray t (0, 0)) :: fl) (⟨some d, .alloc t, ty, pos, af, none⟩ :: l) ρ Y K := by
  refine ⟨fun E F i a hl hf => ?_⟩
  obtain ⟨h1, h2, h3, h4⟩ := WD.tail_ hl
  have hn := hk.go E F (i + 1) a h4 hf
  have hF : F i = true := h3
  simp only [List.length_cons, List.range'_succ, SWr, h1, hF, if_true]
  refine SWr.mono ?_ _ _ _ hn
  intro a' Y' hK β
  obtain ⟨ρ', hf', hK'⟩ := hK β
  exact ⟨_, hf'.put hd _, hK' (β d) _ _ rfl⟩
theorem St.less {w0 w : World} {S0 : List Nat} {Y : List HL} (hs : St w0 S0 R Y w) : St w0 S0 R [] w := hs.perm (M := []) (X := Y.flatten) (by simp)
theorem WD.val {d : Nat} {op : Op} {ty : TypeId} {pos : String} {af : Array Edge} {l : List Oper} {v : Value} (h : OpVal P n R cx op ty ρ [] v) (hd : d < n) (hk : WD P n R cx ops el fl l ((d, v) :: ρ) Y K) :
    WD P n R cx ops (.b false :: el) fl (⟨some d, op, ty, pos, af, none⟩ :: l) ρ Y K := by
  refine ⟨fun E F i a hl hf => ?_⟩
  obtain ⟨h1, h2, h3, h4⟩ := WD.tail_ hl
  have hn := hk.go E F (i + 1) _ h4 (hf.put hd v)
  have hE : E i = false := h2
  have hF : F i = false := h3
  simp only [List.length_cons, List.range'_succ, SWr, h1, hE, hF, Bool.false_eq_true, if_false, eOp]
  exact ⟨v, .inl ⟨by simp [Region.wanted], fun Y w hs => .inl ⟨w, h.go ⟨some d, op, ty, pos, af, none⟩ a w rfl rfl hf hs.less, hs, Lf.rfl'⟩⟩, hn⟩
theorem WD.act {o : Oper} {l : List Oper} (hg : o.guard = none)
    (h : ∀ a w, Fits n ρ a → St cx.w0 cx.S0 R Y w → acts P o a w fun a' w' => ∃ ρ' Y', Fits n ρ' a' ∧ (St cx.w0 cx.S0 R Y' w' ∧ Lf Y Y' w w') ∧ WD P n R cx ops el fl l ρ' Y' K) :
    WD P n R cx ops (.b true :: el) fl (o :: l) ρ Y K := by
  refine ⟨fun E F i a hl hf => ?_⟩
  obtain ⟨h1, h2, h3, h4⟩ := WD.tail_ hl
  have hE : E i = true := h2
  have hF : F i = false := h3
  simp only [List.length_cons, List.range'_succ, SWr, h1, hE, hF, Bool.false_eq_true, if_false, eOp]
  refine .inl ⟨by simp [Region.wanted, hg], fun w hs => acts_mono ?_ (h a w hf hs)⟩
  rintro v w' ⟨ρ', Y', hf', hs', hk⟩
  exact ⟨Y', hs', hk.go E F (i + 1) _ h4 hf'⟩
theorem Lf.call {Y pre rest L' : List HL} {ro : HL} {w w' : World} (hsel : Sel Y pre rest) (hst : St w (ids pre.flatten) ro L' w') : Lf Y (L' ++ rest) w w' := by
  have hp := hsel.perm
  have hi : (ids Y.flatten).Perm (ids pre.flatten ++ ids rest.flatten) := by simpa [ids] using hp.map (·.1)
  refine ⟨hst.sz, fun b hb hn => hst.fr b hb (fun h => hn (hi.mem_iff.2 (by simp [h]))), fun b hb => ?_⟩
  simp only [List.flatten_append, ids, List.map_append, List.mem_append] at hb
  rcases hb with hb | hb
  · rcases hst.own b hb with h | h
    · exact .inl (hi.mem_iff.2 (by simp [h]))
    · exact .inr h
  · exact .inl (hi.mem_iff.2 (List.mem_append.2 (.inr hb)))
theorem Lf.new {Y : List HL} {w : World} {o : Obj} {m : Nat} : Lf Y ([(w.heap.size, o)] :: Y) w ({ w with drawn := m }.alloc o) := by
  refine ⟨by simp, fun b hb _ => heap_alloc_old { w with drawn := m } o hb, fun b hb => ?_⟩
  simp only [List.flatten_cons, List.singleton_append, ids, List.map_cons, List.mem_cons] at hb
  rcases hb with rfl | hb
  · exact .inr (Nat.le_refl _)
  · exact .inl hb
theorem Lf.upd {b : Nat} {o o' : Obj} {L L' : List HL} {w w' : World} (hu : Upd b o o' L L') (ho : ∀ j, j ≠ b → w'.heap[j]? = w.heap[j]?) (hz : w'.heap.size = w.heap.size) : Lf L L' w w' := by
  obtain ⟨A, B, h1, h2⟩ := hu.split
  have hids : ids L'.flatten = ids L.flatten := by rw [h1, h2]; simp [ids]
  refine ⟨by omega, fun j _ hn => ho j ?_, fun j hj => .inl (by rw [← hids]; exact hj)⟩
  rintro rfl
  exact hn (by rw [h1]; simp [ids])
theorem Ctr.use2 {f : FuncId} {args : List Value} {pre rest : List HL} {ro : HL} {post : Value → List HL → Prop} (hsp : Ctr P f args pre ro post)
    {w0 w : World} {S0 : List Nat} {L : List HL} (hs : St w0 S0 R L w) (h : Sel L pre rest) (hro : RoIn R rest ro) :
    Calls P f args.toArray w fun e w' => ∃ v L', e = .returned v ∧ post v L' ∧ St w0 S0 R (L' ++ rest) w' ∧ Lf L (L' ++ rest) w w' := by
  have hp := h.perm
  have hi : (ids L.flatten).Perm (ids pre.flatten ++ ids rest.flatten) := by simpa [ids] using hp.map (·.1)
  obtain ⟨n1, n2, n3⟩ := List.nodup_append.1 (hi.nodup_iff.1 hs.nd)
  refine (hsp.go w (fun p hpm => hs.has p (hp.mem_iff.2 (by simp [hpm]))) n1 (fun p hpm => ?_)).mono ?_
  · rcases hro p hpm with h1 | h1
    · exact ⟨hs.has p (hp.mem_iff.2 (by simp [h1])), fun hm => n3 _ hm _ (List.mem_map_of_mem (f := (·.1)) h1) rfl⟩
    · obtain ⟨h2, h3⟩ := hs.ro p h1
      have hlt := (Array.getElem?_eq_some_iff.1 h2).1
      refine ⟨by rw [hs.fr _ hlt h3]; exact h2, fun hm => ?_⟩
      rcases hs.own _ (hi.mem_iff.2 (List.mem_append.2 (.inl hm))) with h | h
      · exact h3 h
      · omega
  · rintro e w' ⟨v, L', he, hpost, hst⟩
    exact ⟨v, L', he, hpost, hs.call h hst, Lf.call h hst⟩
theorem WD.prim {d : Nat} {op : Op} {ty : TypeId} {pos : String} {af : Array Edge} {l : List Oper} {pre rest : List HL} {post : Value → List HL → Prop}
    (h : Prim P n R cx op ty ρ Y pre post) (hsel : Sel Y pre rest) (hd : d < n) (hk : ∀ v L', post v L' → WD P n R cx ops el fl l ((d, v) :: ρ) (L' ++ rest) K) :
    WD P n R cx ops (.b true :: el) fl (⟨some d, op, ty, pos, af, none⟩ :: l) ρ Y K := by
  refine WD.act rfl fun a w hf hs => ?_
  obtain ⟨v, L', w', hr, hp, hst⟩ := h.go ⟨some d, op, ty, pos, af, none⟩ a w rfl rfl hf hs
  exact .inl ⟨_, _, hr, _, _, hf.put hd v, ⟨hs.call hsel hst, Lf.call hsel hst⟩, hk v L' hp⟩
theorem WD.primU {op : Op} {ty : TypeId} {pos : String} {af : Array Edge} {l : List Oper} {pre rest : List HL} {post : Value → List HL → Prop}
    (h : Prim P n R cx op ty ρ Y pre post) (hsel : Sel Y pre rest) (hk : ∀ v L', post v L' → WD P n R cx ops el fl l ρ (L' ++ rest) K) :
    WD P n R cx ops (.b true :: el) fl (⟨none, op, ty, pos, af, none⟩ :: l) ρ Y K := by
  refine WD.act rfl fun a w hf hs => ?_
  obtain ⟨v, L', w', hr, hp, hst⟩ := h.go ⟨none, op, ty, pos, af, none⟩ a w rfl rfl hf hs
  exact .inl ⟨_, _, hr, _, _, by simpa [Act.put] using hf, ⟨hs.call hsel hst, Lf.call hsel hst⟩, hk v L' hp⟩
theorem WD.new_ {d : Nat} {op : Op} {ty : TypeId} {pos : String} {af : Array Edge} {l : List Oper} {o : Obj} {f : Nat → Value} (h : NewOf P n R cx op ty ρ Y o f) (hd : d < n)
    (hk : ∀ b, WD P n R cx ops el fl l ((d, f b) :: ρ) ([(b, o)] :: Y) K) : WD P n R cx ops (.b true :: el) fl (⟨some d, op, ty, pos, af, none⟩ :: l) ρ Y K := by
  refine WD.act rfl fun a w hf hs => ?_
  obtain ⟨m, hr⟩ := h.go ⟨some d, op, ty, pos, af, none⟩ a w rfl rfl hf hs
  have hs' : St cx.w0 cx.S0 R Y { w with drawn := m } := ⟨hs.has, hs.nd, hs.fr, hs.own, hs.sz, hs.ro, hs.env⟩
  exact .inl ⟨_, _, hr, _, _, hf.put hd _, ⟨hs'.new o, Lf.new⟩, hk w.heap.size⟩
theorem WD.call {d : Nat} {c : Call} {ty : TypeId} {pos : String} {af : Array Edge} {l : List Oper} {fo : Operand} {xs : Array Operand} {tys : Array TypeId}
    {f : FuncId} {fst vs cap args : List Value} {pre rest : List HL} {ro : HL} {post : Value → List HL → Prop}
    (hc : c = ⟨.value fo, xs, tys⟩) (hfo : ev? ρ fo = some (.func (.func f) fst.toArray cap.toArray)) (hxs : evs? ρ xs.toList = some vs) (hargs : fst ++ vs ++ cap = args)
    (hsp : Ctr P f args pre ro post) (hsel : Sel Y pre rest) (hro : RoIn R rest ro) (hd : d < n)
    (hk : ∀ v L', post v L' → WD P n R cx ops el fl l ((d, v) :: ρ) (L' ++ rest) K) :
    WD P n R cx ops (.b true :: el) fl (⟨some d, .call c, ty, pos, af, none⟩ :: l) ρ Y K := by
  refine WD.act rfl fun a w hf hs => ?_
  have hxs' := hf.evs hxs
  have hx : xs.map a.eval = vs.toArray := by cases xs; simp at hxs'; simp [hxs']
  subst hc
  have hcall := hsp.callable args.toArray w
  have hr : (execOp a.eval ⟨some d, .call ⟨.value fo, xs, tys⟩, ty, pos, af, none⟩).run P w = .ok (.enter f args.toArray) w := by
    unfold execOp
    simp only [resolve, Deferred.ofValue, hf.ev hfo, hx, Sem.run_bind, Sem.run_pure, Result.andThen_ok, invoke]
    rw [show (fst.toArray ++ vs.toArray ++ cap.toArray) = args.toArray from by rw [← hargs]; simp, hcall]
  refine .inr (.inr ⟨_, _, _, hr, (hsp.use2 hs hsel hro).mono ?_⟩)
  rintro e w' ⟨v, L', rfl, hpost, hst⟩
  exact ⟨v, rfl, _, _, hf.put hd v, hst, hk v L' hpost⟩
theorem Ctr.quiet {f : FuncId} {args : List Value} {ro : HL} {post : Value → List HL → Prop} {v0 : Value} (hsp : Ctr P f args [] ro post) (hv : ∀ v L', post v L' → v = v0) (hro : ∀ p ∈ ro, p ∈ R) {w : World} (hs : St cx.w0 cx.S0 R Y w) :
    Calls P f args.toArray w fun e w' => e = .returned v0 ∧ St cx.w0 cx.S0 R Y w' ∧ Lf Y Y w w' := by
  refine (hsp.use2 hs (Sel.nil (L := Y)) (fun p hp => .inr (hro p hp))).mono ?_
  rintro e w' ⟨v, L', rfl, hpost, hst, hlf⟩
  refine ⟨by rw [hv v L' hpost], hst.perm (M := Y) (X := L'.flatten) ?_, hlf.1, hlf.2.1, fun b hb => .inl hb⟩
  simp only [List.flatten_append]
  exact List.perm_append_comm
theorem WD.callQ {d : Nat} {c : Call} {ty : TypeId} {pos : String} {af : Array Edge} {l : List Oper} {fo : Operand} {xs : Array Operand} {tys : Array TypeId}
    {f : FuncId} {fst vs cap args : List Value} {ro : HL} {post : Value → List HL → Prop} (v0 : Value)
    (hc : c = ⟨.value fo, xs, tys⟩) (hfo : ev? ρ fo = some (.func (.func f) fst.toArray cap.toArray)) (hxs : evs? ρ xs.toList = some vs) (hargs : fst ++ vs ++ cap = args) (hi : P.inits.idxOf? f = none)
    (hsp : Ctr P f args [] ro post) (hv : ∀ v L', post v L' → v = v0) (hro : ∀ p ∈ ro, p ∈ R) (hd : d < n)
    (hk : WD P n R cx ops el fl l ((d, v0) :: ρ) Y K) :
    WD P n R cx ops (.b false :: el) fl (⟨some d, .call c, ty, pos, af, none⟩ :: l) ρ Y K := by
  refine ⟨fun E F i a hl hf => ?_⟩
  obtain ⟨h1, h2, h3, h4⟩ := WD.tail_ hl
  have hn := hk.go E F (i + 1) _ h4 (hf.put hd v0)
  have hE : E i = false := h2
  have hF : F i = false := h3
  simp only [List.length_cons, List.range'_succ, SWr, h1, hE, hF, Bool.false_eq_true, if_false, eOp]
  refine ⟨v0, .inl ⟨by simp [Region.wanted], fun Y w hs => .inr ⟨f, args.toArray, w, ?_, hi, hsp.quiet hv hro hs⟩⟩, hn⟩
  have hxs' := hf.evs hxs
  have hx : xs.map a.eval = vs.toArray := by cases xs; simp at hxs'; simp [hxs']
  unfold execOp
  subst hc
  have hcall := hsp.callable
  simp only [resolve, Deferred.ofValue, hf.ev hfo, hx, Sem.run_bind, Sem.run_pure, Result.andThen_ok, invoke]
  rw [show (fst.toArray ++ vs.toArray ++ cap.toArray) = args.toArray from by rw [← hargs]; simp, hcall]
theorem WD.valA {d : Nat} {op : Op} {ty : TypeId} {pos : String} {af : Array Edge} {l : List Oper} {v : Value}
    (h : OpVal P n R cx op ty ρ Y v) (hd : d < n) (hk : WD P n R cx ops el fl l ((d, v) :: ρ) Y K) : WD P n R cx ops (.b true :: el) fl (⟨some d, op, ty, pos, af, none⟩ :: l) ρ Y K :=
  WD.act rfl fun a w hf hs => .inl ⟨_, _, h.go ⟨some d, op, ty, pos, af, none⟩ a w rfl rfl hf hs, _, _, hf.put hd v, ⟨hs, Lf.rfl'⟩, hk⟩
theorem WD.store {T : Tab} (hT : TabOk P T) {l : List Oper} {t ty : TypeId} {x y : Operand} {pos : String} {af : Array Edge} {b off m : Nat} {ag : Bool} {L' : List HL} {cl cl' vs : List Value} {e : TypeId} {v : Value}
    (hx : ev? ρ x = some (.pointer (some ⟨b, off, none⟩))) (hu : Upd b (.cells cl.toArray e (0, 0)) (.cells cl'.toArray e (0, 0)) Y L')
    (hy : ev? ρ y = some v) (hc : cells? v = some vs) (hz : look? T.tys t = some (ag, m)) (hl : vs.length = m) (h1 : allOne vs = true)
    (hv : splice? cl off vs = some cl')
    (hk : WD P n R cx ops el fl l ρ L' K) : WD P n R cx ops (.b true :: el) fl (⟨none, .store t x y, ty, pos, af, none⟩ :: l) ρ Y K := by
  refine WD.act rfl fun a w hf hs => ?_
  obtain ⟨A, B, e1, -⟩ := hu.split
  have hb : w.heap[b]? = some (.cells cl.toArray e (0, 0)) := hs.has (b, .cells cl.toArray e (0, 0)) (by rw [e1]; simp)
  have hst := run_storeCells_splice (P := P) hb hv h1
  have hcs := cells?_eq hc
  have hz' := (hT.tys _ (look?_mem hz)).2
  have hr : (execOp a.eval ⟨none, .store t x y, ty, pos, af, none⟩).run P w = .ok .skip (w.setRow b cl'.toArray) := by
    unfold execOp
    simp [hf.ev hx, hf.ev hy, Instr.storeAt, Instr.sureAddr, storeVar, hz' w, hcs, hl, hst]
  exact .inr (.inl ⟨_, hr, _, _, by simpa [Act.put] using hf, ⟨hs.upd hu (setRow_heap w b _ _ e _ hb) (fun j hj => setRow_other w b j _ hj) (setRow_size ..) ⟨rfl, rfl, rfl⟩, Lf.upd hu (fun j hj => setRow_other w b j _ hj) (setRow_size ..)⟩, hk⟩)
theorem WD.guardGo {e : Bool} {d : Option Nat} {op : Op} {ty : TypeId} {pos : String} {af : Array Edge} {l : List Oper} {j s : Nat} {want b : Bool}
    (hj : (ops[j]?).bind (·.dst) = some s) (hb : ρ.get? s = some (.bool b)) (hw : b = want)
    (h : ∀ E F i a, Marks ops E F (i + 1) el l → Fits n ρ a → Region.wanted ⟨d, op, ty, pos, af, some (j, want)⟩ (yielded ops a.tmps) = true →
      eOp P R cx ops e ⟨d, op, ty, pos, af, some (j, want)⟩ (SWr P R cx ops E F (KfOf n fl K) (List.range' (i + 1) l.length)) a Y) :
    WD P n R cx ops (.b e :: el) fl (⟨d, op, ty, pos, af, some (j, want)⟩ :: l) ρ Y K := by
  refine ⟨fun E F i a hl hf => ?_⟩
  obtain ⟨h1, h2, h3, h4⟩ := WD.tail_ hl
  have hy := yielded_of (all := ops) hf hj hb
  have hE : E i = e := h2
  have hF : F i = false := h3
  simp only [List.length_cons, List.range'_succ, SWr, h1, hE, hF, Bool.false_eq_true, if_false]
  exact h E F i a h4 hf (by simp [Region.wanted, hy, hw])
theorem WD.guardGoQ {d : Nat} {op : Op} {ty : TypeId} {pos : String} {af : Array Edge} {l : List Oper} {j s : Nat} {want b : Bool} {v : Value}
    (hj : (ops[j]?).bind (·.dst) = some s) (hb : ρ.get? s = some (.bool b)) (hw : b = want) (h : OpVal P n R cx op ty ρ [] v) (hd : d < n) (hk : WD P n R cx ops el fl l ((d, v) :: ρ) Y K) :
    WD P n R cx ops (.b false :: el) fl (⟨some d, op, ty, pos, af, some (j, want)⟩ :: l) ρ Y K :=
  WD.guardGo hj hb hw fun E F i a h3 hf hwt =>
    ⟨v, .inl ⟨hwt, fun Y w hs => .inl ⟨w, h.go ⟨some d, op, ty, pos, af, some (j, want)⟩ a w rfl rfl hf hs.less, hs, Lf.rfl'⟩⟩, hk.go E F (i + 1) _ h3 (hf.put hd v)⟩
theorem WD.guardGoCall {d : Nat} {c : Call} {ty : TypeId} {pos : String} {af : Array Edge} {l : List Oper} {j s : Nat} {want b : Bool} {fo : Operand} {xs : Array Operand} {tys : Array TypeId}
    {f : FuncId} {fst vs cap args : List Value} {pre rest : List HL} {ro : HL} {post : Value → List HL → Prop}
    (hj : (ops[j]?).bind (·.dst) = some s) (hb : ρ.get? s = some (.bool b)) (hw : b = want)
    (hc : c = ⟨.value fo, xs, tys⟩) (hfo : ev? ρ fo = some (.func (.func f) fst.toArray cap.toArray)) (hxs : evs? ρ xs.toList = some vs) (hargs : fst ++ vs ++ cap = args)
    (hsp : Ctr P f args pre ro post) (hsel : Sel Y pre rest) (hro : RoIn R rest ro) (hd : d < n)
    (hk : ∀ v L', post v L' → WD P n R cx ops el fl l ((d, v) :: ρ) (L' ++ rest) K) :
    WD P n R cx ops (.b true :: el) fl (⟨some d, .call c, ty, pos, af, some (j, want)⟩ :: l) ρ Y K := by
  refine WD.guardGo hj hb hw fun E F i a h3 hf hwt => .inl ⟨hwt, fun w hs => ?_⟩
  have hxs' := hf.evs hxs
  have hx : xs.map a.eval = vs.toArray := by cases xs; simp at hxs'; simp [hxs']
  subst hc
  have hcall := hsp.callable args.toArray w
  have hr : (execOp a.eval ⟨some d, .call ⟨.value fo, xs, tys⟩, ty, pos, af, some (j, want)⟩).run P w = .ok (.enter f args.toArray) w := by
    unfold execOp
    simp only [resolve, Deferred.ofValue, hf.ev hfo, hx, Sem.run_bind, Sem.run_pure, Result.andThen_ok, invoke]
    rw [show (fst.toArray ++ vs.toArray ++ cap.toArray) = args.toArray from by rw [← hargs]; simp, hcall]
  refine .inr (.inr ⟨_, _, _, hr, (hsp.use2 hs hsel hro).mono ?_⟩)
  rintro e w' ⟨v, L', rfl, hpost, hst⟩
  exact ⟨v, rfl, _, hst, (hk v L' hpost).go E F (i + 1) _ h3 (hf.put hd v)⟩
theorem WD.skip_ {e : Bool} {d : Nat} {op : Op} {ty : TypeId} {pos : String} {af : Array Edge} {l : List Oper} {g : Option (Nat × Bool)}
    (hg : ∀ a, Fits n ρ a → Region.wanted ⟨some d, op, ty, pos, af, g⟩ (yielded ops a.tmps) = false) (hd : d < n) (hk : WD P n R cx ops el fl l ((d, undef) :: ρ) Y K) :
    WD P n R cx ops (.b e :: el) fl (⟨some d, op, ty, pos, af, g⟩ :: l) ρ Y K := by
  refine ⟨fun E F i a hl hf => ?_⟩
  obtain ⟨h1, h2, h3, h4⟩ := WD.tail_ hl
  have hn := hk.go E F (i + 1) _ h4 (hf.put hd undef)
  have hE : E i = e := h2
  have hF : F i = false := h3
  simp only [List.length_cons, List.range'_succ, SWr, h1, hE, hF, Bool.false_eq_true, if_false]
  cases e with
  | false => exact ⟨undef, .inr ⟨hg a hf, rfl⟩, hn⟩
  | true => exact .inr ⟨hg a hf, hn⟩
theorem WD.guardSkip {e : Bool} {d : Nat} {op : Op} {ty : TypeId} {pos : String} {af : Array Edge} {l : List Oper} {j s : Nat} {want b : Bool}
    (hj : (ops[j]?).bind (·.dst) = some s) (hb : ρ.get? s = some (.bool b)) (hw : b = !want) (hd : d < n) (hk : WD P n R cx ops el fl l ((d, undef) :: ρ) Y K) :
    WD P n R cx ops (.b e :: el) fl (⟨some d, op, ty, pos, af, some (j, want)⟩ :: l) ρ Y K :=
  WD.skip_ (fun a hf => by have hy := yielded_of (all := ops) hf hj hb; simp only [Region.wanted, hy, hw]; cases want <;> simp) hd hk
theorem WD.guardUndef {e : Bool} {d : Nat} {op : Op} {ty : TypeId} {pos : String} {af : Array Edge} {l : List Oper} {j s : Nat} {want : Bool}
    (hj : (ops[j]?).bind (·.dst) = some s) (hb : ρ.get? s = some undef) (hd : d < n) (hk : WD P n R cx ops el fl l ((d, undef) :: ρ) Y K) :
    WD P n R cx ops (.b e :: el) fl (⟨some d, op, ty, pos, af, some (j, want)⟩ :: l) ρ Y K :=
  WD.skip_ (fun a hf => by have hy := yielded_of (all := ops) hf hj hb; simp [Region.wanted, hy, undef]) hd hk
def ddrive (T : Tab) (n : Nat) : List Kd → List Oper → Env → Option (List Kd × List Oper × Env)
  | el, [], ρ => some (el, [], ρ)
  | [], l, ρ => some ([], l, ρ)
  | e :: el, o :: l, ρ => match e with
    | .f => some (.f :: el, o :: l, ρ)
    | .b true => some (.b true :: el, o :: l, ρ)
    | .b false => match o with
      | ⟨some d, op, _, _, _, none⟩ => match pop? T ρ op with
        | some v => if Nat.blt d n then ddrive T n el l ((d, v) :: ρ) else none
        | none => some (.b false :: el, o :: l, ρ)
      | o => some (.b false :: el, o :: l, ρ)
theorem WD.drive {T : Tab} (hT : TabOk P T) : ∀ {el el' : List Kd} {l l' : List Oper} {ρ ρ' : Env}, ddrive T n el l ρ = some (el', l', ρ') → WD P n R cx ops el' fl l' ρ' Y K → WD P n R cx ops el fl l ρ Y K
  | el, el', [], l', ρ, ρ', e, h => by
    have : el = el' ∧ [] = l' ∧ ρ = ρ' := by cases el <;> simpa [ddrive] using e
    obtain ⟨rfl, rfl, rfl⟩ := this
    exact h
  | [], el', o :: l, l', ρ, ρ', e, h => by simp only [ddrive, Option.some.injEq, Prod.mk.injEq] at e; obtain ⟨rfl, rfl, rfl⟩ := e; exact h
  | b :: el, el', o :: l, l', ρ, ρ', e, h => by
    unfold ddrive at e
    split at e
    · simp only [Option.some.injEq, Prod.mk.injEq] at e; obtain ⟨rfl, rfl, rfl⟩ := e; exact h
    · simp only [Option.some.injEq, Prod.mk.injEq] at e; obtain ⟨rfl, rfl, rfl⟩ := e; exact h
    · split at e
      · split at e
        · rename_i v hv
          split at e
          · rename_i hd
            exact WD.val (pop_val hT hv) (by simpa using hd) (WD.drive hT e h)
          · cases e
        · simp only [Option.some.injEq, Prod.mk.injEq] at e; obtain ⟨rfl, rfl, rfl⟩ := e; exact h
      · simp only [Option.some.injEq, Prod.mk.injEq] at e; obtain ⟨rfl, rfl, rfl⟩ := e; exact h
theorem WD.step {T : Tab} (hT : TabOk P T) {el el' : List Kd} {l l' : List Oper} {ρ ρ' : Env} {Y' : List HL} (h1 : ddrive T n el l ρ = some (el', l', ρ')) (h2 : norm? Y = some Y') (h : WD P n R cx ops el' fl l' ρ' Y' K) :
    WD P n R cx ops el fl l ρ Y K := by
  rw [norm?_eq h2]
  exact WD.drive hT h1 h
def part? (is : List Nat) : Nat → List HL → Option (List HL × List HL)
  | _, [] => some ([], [])
  | i, c :: L => match part? is (i + 1) L with
    | none => none
    | some (A, B) => if hasNat is i then some (c :: A, B) else some (A, c :: B)
theorem part?_perm {is : List Nat} : ∀ {i : Nat} {L A B : List HL}, part? is i L = some (A, B) → L.flatten.Perm (A.flatten ++ B.flatten)
  | _, [], A, B, h => by simp only [part?, Option.some.injEq, Prod.mk.injEq] at h; obtain ⟨rfl, rfl⟩ := h; simp
  | i, c :: L, A, B, h => by
    simp only [part?] at h
    split at h
    · cases h
    · rename_i A' B' hp
      have ih := part?_perm hp
      split at h
      · simp only [Option.some.injEq, Prod.mk.injEq] at h
        obtain ⟨rfl, rfl⟩ := h
        simp only [List.flatten_cons, List.append_assoc]
        exact List.Perm.append_left c ih
      · simp only [Option.some.injEq, Prod.mk.injEq] at h
        obtain ⟨rfl, rfl⟩ := h
        simp only [List.flatten_cons]
        refine (List.Perm.append_left c ih).trans ?_
        rw [← List.append_assoc, ← List.append_assoc]
        exact List.Perm.append_right _ List.perm_append_comm
theorem St.callP {w0 w w' : World} {S0 : List Nat} {L pre rest L' : List HL} {ro : HL} (hs : St w0 S0 R L w) (hp : L.flatten.Perm (pre.flatten ++ rest.flatten)) (hc : St w (ids pre.flatten) ro L' w') :
    St w0 S0 R (L' ++ rest) w' := by
  have h1 : St w0 S0 R (pre ++ rest) w := hs.perm (X := []) (by simpa using hp)
  have hc' : St w (ids ([pre.flatten] : List HL).flatten) ro L' w' := by simpa using hc
  have h2 : St w0 S0 R (pre.flatten :: rest) w := h1.perm (X := []) (by simp)
  exact h2.call (.cons .here .nil) hc'
theorem St.low {w0 w : World} {S0 : List Nat} {L A B : List HL} (hs : St w0 S0 R L w) (hp : L.flatten.Perm (A.flatten ++ B.flatten)) : St w (ids A.flatten) (B.flatten ++ R) A w := by
  have hi : (ids L.flatten).Perm (ids A.flatten ++ ids B.flatten) := by simpa [ids] using hp.map (·.1)
  obtain ⟨n1, n2, n3⟩ := List.nodup_append.1 (hi.nodup_iff.1 hs.nd)
  refine ⟨fun p hpm => hs.has p (hp.mem_iff.2 (by simp [hpm])), n1, fun _ _ _ => rfl, fun b hb => .inl hb, Nat.le_refl _, fun p hpm => ?_, ⟨rfl, rfl, rfl⟩⟩
  rcases List.mem_append.1 hpm with h1 | h1
  · exact ⟨hs.has p (hp.mem_iff.2 (by simp [h1])), fun hm => n3 _ hm _ (List.mem_map_of_mem (f := (·.1)) h1) rfl⟩
  · obtain ⟨h2, h3⟩ := hs.ro p h1
    have hlt := (Array.getElem?_eq_some_iff.1 h2).1
    refine ⟨by rw [hs.fr _ hlt h3]; exact h2, fun hm => ?_⟩
    rcases hs.own _ (hi.mem_iff.2 (List.mem_append.2 (.inl hm))) with h | h
    · exact h3 h
    · omega
def floatsOf (T : Tab) : List Oper → List Kd → Option (List (Nat × Obj))
  | [], _ => some []
  | _ :: _, [] => some []
  | o :: l, k :: el => match k with
    | .b _ => floatsOf T l el
    | .f => match o with
      | ⟨some d, .alloc t, _, _, _, none⟩ => match look? T.zeros t with
        | some z => match cells? z with
          | some zs => match floatsOf T l el with
            | some r => some ((d, .cells zs.toArray t (0, 0)) :: r)
            | none => none
          | none => none
        | none => none
      | _ => none
def floatB (ops : Array Oper) (F : Nat → Bool) (N : Nat) : Bool :=
  (List.range N).all fun j => !F j || (List.range N).all fun i => decide (i = j) || (match ops[j]?, ops[i]? with | some oj, some oi => oj.apart ops oi && oi.apart ops oj | _, _ => false)
theorem floatsOf_spec {T : Tab} (hT : TabOk P T) : ∀ {l : List Oper} {el : List Kd} {fl : List (Nat × Obj)}, floatsOf T l el = some fl →
    (∀ j, j < l.length → (el.getD j (.b false)).fl = true → ∃ oi d o, l[j]? = some oi ∧ oi.dst = some d ∧ oi.guard = none ∧ (d, o) ∈ fl ∧ ∀ (a : Act) (w : World), ∃ m, (execOp a.eval oi).run P w = .ok (.value (.pointer (some ⟨w.heap.size, 0, none⟩))) ({ w with drawn := m }.alloc o)) ∧
    (∀ q ∈ fl, ∃ j, j < l.length ∧ (el.getD j (.b false)).fl = true ∧ ∃ oi, l[j]? = some oi ∧ oi.dst = some q.1)
  | [], el, fl, h => by
    simp only [floatsOf, Option.some.injEq] at h; subst h
    exact ⟨fun j hj => by simp at hj, fun q hq => by cases hq⟩
  | o :: l, [], fl, h => by
    simp only [floatsOf, Option.some.injEq] at h; subst h
    exact ⟨fun j hj hf => by simp [Kd.fl] at hf, fun q hq => by cases hq⟩
  | o :: l, k :: el, fl, h => by
    have lift : ∀ {fl' : List (Nat × Obj)}, floatsOf T l el = some fl' → (∀ q ∈ fl', q ∈ fl) →
        (∀ j, j + 1 < (o :: l).length → ((k :: el).getD (j + 1) (.b false)).fl = true → ∃ oi d o', (o :: l)[j + 1]? = some oi ∧ oi.dst = some d ∧ oi.guard = none ∧ (d, o') ∈ fl ∧ ∀ (a : Act) (w : World), ∃ m, (execOp a.eval oi).run P w = .ok (.value (.pointer (some ⟨w.heap.size, 0, none⟩))) ({ w with drawn := m }.alloc o')) ∧
        (∀ q ∈ fl', ∃ j, j < (o :: l).length ∧ ((k :: el).getD j (.b false)).fl = true ∧ ∃ oi, (o :: l)[j]? = some oi ∧ oi.dst = some q.1) := by
      intro fl' h' hsub
      obtain ⟨i1, i2⟩ := floatsOf_spec hT h'
      refine ⟨fun j hj hf => ?_, fun q hq => ?_⟩
      · obtain ⟨oi, d, o', e1, e2, e3, e4, e5⟩ := i1 j (by simpa using hj) (by simpa using hf)
        exact ⟨oi, d, o', by simpa using e1, e2, e3, hsub _ e4, e5⟩
      · obtain ⟨j, e1, e2, oi, e3, e4⟩ := i2 q hq
        exact ⟨j + 1, by simpa using e1, by simpa using e2, oi, by simpa using e3, e4⟩
    simp only [floatsOf] at h
    split at h
    · obtain ⟨i1, i2⟩ := lift h (fun q hq => hq)
      refine ⟨fun j hj hf => ?_, i2⟩
      cases j with
      | zero => simp [Kd.fl] at hf
      | succ j => exact i1 j hj hf
    · split at h
      · rename_i d t ty pos af
        split at h
        · rename_i z hz
          split at h
          · rename_i zs hzs
            split at h
            · rename_i r hr
              cases h
              obtain ⟨i1, i2⟩ := lift hr (fun q hq => List.mem_cons_of_mem _ hq)
              refine ⟨fun j hj hf => ?_, fun q hq => ?_⟩
              · cases j with
                | zero =>
                  refine ⟨_, d, _, rfl, rfl, rfl, List.mem_cons_self, fun a w => ⟨w.drawn, ?_⟩⟩
                  have hz' := hT.zeros _ (look?_mem hz)
                  unfold execOp
                  show _ = Result.ok _ (w.alloc _)
                  simp [Instr.alloc, hz' w, newVar, newRow, cells?_eq hzs]
                | succ j => exact i1 j hj hf
              · rcases List.mem_cons.1 hq with rfl | hq
                · exact ⟨0, by simp, by simp [Kd.fl], _, rfl, rfl⟩
                · exact i2 q hq
            · cases h
          · cases h
        · cases h
      · cases h
theorem W.drawH {T : Tab} (hT : TabOk P T) {L X : List HL} {fl : List (Nat × Obj)} (N : Nat) (el : List Kd) (is : List Nat) {id : Nat} {l : List Oper} (hm : P.follows .mixedOrders = true) (hB : drawB l.toArray (fun j => (el.getD j (.b false)).act) N = true)
    (hfB : floatB l.toArray (fun j => (el.getD j (.b false)).fl) N = true) (hfl : floatsOf T (l.take N) el = some fl) (hnd : (fl.map (·.1)).Nodup) (hp : part? is 0 L = some (Y, X))
    (h : ∀ cx' : Cx, WD P n (X.flatten ++ R) cx' l.toArray el fl (l.take N) ρ Y (fun ρ' Y' => W P n R cx (.ops l.toArray (l.drop N) :: k) ρ' (Y' ++ X))) : W P n R cx (.code (.region id l.toArray true) :: k) ρ L := by
  refine ⟨fun a w hf hs => ?_⟩
  have hperm := part?_perm hp
  have hs1 := hs.drawn (w.drawn + 1)
  have hlow := hs1.low hperm
  simp only [mean]
  refine wp_region_any hm ?_
  let cx' : Cx := ⟨{ w with drawn := w.drawn + 1 }, ids Y.flatten, fun _ _ _ => False⟩
  have hN : N ≤ l.length := by
    simp only [drawB, Bool.and_eq_true, decide_eq_true_eq] at hB
    simpa using hB.1.1.1.2
  have hlen : (l.take N).length = N := by simp; omega
  have hS := (h cx').go (fun j => (el.getD j (.b false)).act) (fun j => (el.getD j (.b false)).fl) 0 a (fun j hj => by rw [hlen] at hj; simp [hj]) hf
  rw [hlen] at hS
  obtain ⟨f1, f2⟩ := floatsOf_spec hT hfl
  have hget : ∀ i, i < N → l.toArray[i]? = (l.take N)[i]? := fun i hi => by simp [hi]
  have hapart : ∀ i j, i < N → j < N → i ≠ j → (el.getD j (.b false)).fl = true → ∀ oi oj, l.toArray[i]? = some oi → l.toArray[j]? = some oj → oj.apart l.toArray oi = true ∧ oi.apart l.toArray oj = true := by
    intro i j hi hj hij hFj oi oj hoi hoj
    have h1 := List.all_eq_true.1 hfB j (by simpa using hj)
    simp only [hFj, Bool.not_true, Bool.false_or] at h1
    have h2 := List.all_eq_true.1 h1 i (by simpa using hi)
    simp only [Bool.or_eq_true, decide_eq_true_eq] at h2
    have h3 := h2.resolve_left hij
    rw [hoi, hoj] at h3
    simpa using h3
  have hflok : FlOk P l.toArray (fun j => (el.getD j (.b false)).fl) N fl := by
    refine ⟨hnd, fun i hi hFi => ?_, fun i hi hFi oi hoi q hq => ?_, fun i j hi hj hFi hFj oi oj hoi hoj hd => ?_, fun q hq => ?_⟩
    · obtain ⟨oi, d, o, e1, e2, e3, e4, e5⟩ := f1 i (by rw [hlen]; exact hi) hFi
      exact ⟨oi, d, o, by rw [hget i hi]; exact e1, e2, e3, e4, e5⟩
    · obtain ⟨j, e1, e2, oj, e3, e4⟩ := f2 q hq
      rw [hlen] at e1
      have hij : i ≠ j := by rintro rfl; simp only [hFi] at e2; cases e2
      obtain ⟨a1, a2⟩ := hapart i j hi e1 hij e2 oi oj hoi (by rw [hget j e1]; exact e3)
      obtain ⟨p1, p2, p3⟩ := Oper.apart_spec a1
      exact ⟨p1 _ e4, p2 _ e4⟩
    · refine Classical.byContradiction fun hij => ?_
      obtain ⟨a1, a2⟩ := hapart i j hi hj hij hFj oi oj hoi hoj
      obtain ⟨oi', d, o, e1, e2, _⟩ := f1 i (by rw [hlen]; exact hi) hFi
      rw [← hget i hi, hoi] at e1
      cases e1
      obtain ⟨p1, p2, p3⟩ := Oper.apart_spec a1
      exact p2 d (by rw [← hd, e2]) e2
    · obtain ⟨j, e1, e2, oj, e3, e4⟩ := f2 q hq
      rw [hlen] at e1
      exact ⟨j, e1, e2, oj, by rw [hget j e1]; exact e3, e4⟩
  have hno := putO_none (a := a) (fl := fl)
  have := any_of_swr (P := P) (R := X.flatten ++ R) (cx := cx') (ops := l.toArray) (E := fun j => (el.getD j (.b false)).act) (F := fun j => (el.getD j (.b false)).fl) (N := N) (Q := mean P n R cx k) (fl := fl)
    (Kf := KfOf n fl (fun ρ' Y' => W P n R cx (.ops l.toArray (l.drop N) :: k) ρ' (Y' ++ X))) hflok hB (by
      intro a' Y' β w' hKf hs'
      obtain ⟨ρ', hf', hW⟩ := hKf β
      have := hW.go _ w' hf' (hs1.callP hperm hs')
      simpa [mean] using this) N (List.range' 0 N) (Array.replicate l.toArray.size false) a Y (fun _ => none) { w with drawn := w.drawn + 1 } (by simp) ⟨by simp, List.pairwise_lt_range', by simp, ?_, ?_, ?_⟩ (by
        intro i hi _ _ _ _ _
        simp [hi]) (by rw [hno.2]; exact hlow.perm (X := []) (by simp)) hS
  · rw [hno.1, show N + (l.toArray.size - N) = l.toArray.size from by simp; omega] at this
    exact this
  · intro i hi
    have : i < l.toArray.size := by simp; omega
    rw [getD_tf (by simpa using this)]
    simp [hi]
  · intro i _ hi
    rw [getD_tf (by simpa using hi)]
    simp
  · intro i o ho hl
    have hi := (Array.getElem?_eq_some_iff.1 ho).1
    rw [getD_tf (by simpa using hi)] at hl
    simp at hl
theorem W.drawG {T : Tab} (hT : TabOk P T) {L X : List HL} {fl : List (Nat × Obj)} (N N2 : Nat) (el el2 : List Kd) (is : List Nat) {id : Nat} {l : List Oper} (hm : P.follows .mixedOrders = true) (h12 : N ≤ N2) (hel : el.length = N) (hB : drawB l.toArray (fun j => ((el ++ el2).getD j (.b false)).act) N2 = true) (htB : tailB l.toArray (fun j => ((el ++ el2).getD j (.b false)).act) (fun j => ((el ++ el2).getD j (.b false)).fl) N = true) (hno2 : ∀ k ∈ el2, k.fl = false)
    (hfB : floatB l.toArray (fun j => ((el ++ el2).getD j (.b false)).fl) N = true) (hfl : floatsOf T (l.take N) el = some fl) (hnd : (fl.map (·.1)).Nodup) (hp : part? is 0 L = some (Y, X))
    (h : ∀ cx' : Cx, WD P n (X.flatten ++ R) cx' l.toArray el fl (l.take N) ρ Y (fun ρ' Y' => WD P n (X.flatten ++ R) cx' l.toArray el2 [] ((l.drop N).take (N2 - N)) ρ' Y' (fun ρ' Y' => W P n R cx (.ops l.toArray (l.drop N2) :: k) ρ' (Y' ++ X)))) : W P n R cx (.code (.region id l.toArray true) :: k) ρ L := by
  refine ⟨fun a w hf hs => ?_⟩
  have hperm := part?_perm hp
  have hs1 := hs.drawn (w.drawn + 1)
  have hlow := hs1.low hperm
  simp only [mean]
  refine wp_region_any hm ?_
  let cx' : Cx := ⟨{ w with drawn := w.drawn + 1 }, ids Y.flatten, fun _ _ _ => False⟩
  have hN2 : N2 ≤ l.length := by
    simp only [drawB, Bool.and_eq_true, decide_eq_true_eq] at hB
    simpa using hB.1.1.1.2
  have hN : N ≤ l.length := by omega
  have hlo : ∀ j, j < N → (el ++ el2).getD j (.b false) = el.getD j (.b false) := fun j hj => by
    rw [List.getD_eq_getElem?_getD, List.getD_eq_getElem?_getD, List.getElem?_append_left (by omega)]
  have hhi : ∀ j, (el ++ el2).getD (N + j) (.b false) = el2.getD j (.b false) := fun j => by
    rw [List.getD_eq_getElem?_getD, List.getD_eq_getElem?_getD, List.getElem?_append_right (by omega), hel, Nat.add_sub_cancel_left]
  have hlen : (l.take N).length = N := by simp; omega
  have hS := (h cx').go (fun j => ((el ++ el2).getD j (.b false)).act) (fun j => ((el ++ el2).getD j (.b false)).fl) 0 a (fun j hj => by rw [hlen] at hj; rw [Nat.zero_add]; dsimp only; rw [hlo j hj]; simp [hj]) hf
  rw [hlen] at hS
  obtain ⟨f1, f2⟩ := floatsOf_spec hT hfl
  have hget : ∀ i, i < N → l.toArray[i]? = (l.take N)[i]? := fun i hi => by simp [hi]
  have hapart : ∀ i j, i < N → j < N → i ≠ j → ((el ++ el2).getD j (.b false)).fl = true → ∀ oi oj, l.toArray[i]? = some oi → l.toArray[j]? = some oj → oj.apart l.toArray oi = true ∧ oi.apart l.toArray oj = true := by
    intro i j hi hj hij hFj oi oj hoi hoj
    have h1 := List.all_eq_true.1 hfB j (by simpa using hj)
    simp only [hFj, Bool.not_true, Bool.false_or] at h1
    have h2 := List.all_eq_true.1 h1 i (by simpa using hi)
    simp only [Bool.or_eq_true, decide_eq_true_eq] at h2
    have h3 := h2.resolve_left hij
    rw [hoi, hoj] at h3
    simpa using h3
  have hflok : FlOk P l.toArray (fun j => ((el ++ el2).getD j (.b false)).fl) N fl := by
    refine ⟨hnd, fun i hi hFi => ?_, fun i hi hFi oi hoi q hq => ?_, fun i j hi hj hFi hFj oi oj hoi hoj hd => ?_, fun q hq => ?_⟩
    · obtain ⟨oi, d, o, e1, e2, e3, e4, e5⟩ := f1 i (by rw [hlen]; exact hi) (by rw [← hlo i hi]; exact hFi)
      exact ⟨oi, d, o, by rw [hget i hi]; exact e1, e2, e3, e4, e5⟩
    · obtain ⟨j, e1, e2, oj, e3, e4⟩ := f2 q hq
      rw [hlen] at e1
      rw [← hlo j e1] at e2
      have hij : i ≠ j := by rintro rfl; simp only [hFi] at e2; cases e2
      obtain ⟨a1, a2⟩ := hapart i j hi e1 hij e2 oi oj hoi (by rw [hget j e1]; exact e3)
      obtain ⟨p1, p2, p3⟩ := Oper.apart_spec a1
      exact ⟨p1 _ e4, p2 _ e4⟩
    · refine Classical.byContradiction fun hij => ?_
      obtain ⟨a1, a2⟩ := hapart i j hi hj hij hFj oi oj hoi hoj
      obtain ⟨oi', d, o, e1, e2, _⟩ := f1 i (by rw [hlen]; exact hi) (by rw [← hlo i hi]; exact hFi)
      rw [← hget i hi, hoi] at e1
      cases e1
      obtain ⟨p1, p2, p3⟩ := Oper.apart_spec a1
      exact p2 d (by rw [← hd, e2]) e2
    · obtain ⟨j, e1, e2, oj, e3, e4⟩ := f2 q hq
      rw [hlen] at e1
      exact ⟨j, e1, by rw [hlo j e1]; exact e2, oj, by rw [hget j e1]; exact e3, e4⟩
  have hno := putO_none (a := a) (fl := fl)
  have := any_of_swrG (P := P) (R := X.flatten ++ R) (cx := cx') (ops := l.toArray) (E := fun j => ((el ++ el2).getD j (.b false)).act) (F := fun j => ((el ++ el2).getD j (.b false)).fl) (N1 := N) (N2 := N2) (Q := mean P n R cx k) (fl := fl)
    (Kf := KfOf n fl (fun ρ' Y' => WD P n (X.flatten ++ R) cx' l.toArray el2 [] ((l.drop N).take (N2 - N)) ρ' Y' (fun ρ' Y' => W P n R cx (.ops l.toArray (l.drop N2) :: k) ρ' (Y' ++ X))))
    (Kf2 := KfOf n [] (fun ρ' Y' => W P n R cx (.ops l.toArray (l.drop N2) :: k) ρ' (Y' ++ X))) hflok h12 hB htB (by
      intro a' Y' β hKf
      obtain ⟨ρ', hf', hW⟩ := hKf β
      have hl2 : ((l.drop N).take (N2 - N)).length = N2 - N := by simp; omega
      have := hW.go (fun j => ((el ++ el2).getD j (.b false)).act) (fun _ => false) N _ (fun j hj => by
        rw [hl2] at hj
        have hnf : (el2.getD j (.b false)).fl = false := by
          rw [List.getD_eq_getElem?_getD]
          cases hx : el2[j]? with
          | none => rfl
          | some kd => exact hno2 _ (List.mem_of_getElem? hx)
        dsimp only
        rw [hhi j, hnf]
        refine ⟨?_, rfl, rfl⟩
        rw [List.getElem?_take, if_pos hj, List.getElem?_drop]
        simp) hf'
      rw [hl2] at this
      exact this) (by
      intro a' Y' w' hKf hs'
      obtain ⟨ρ', hf', hW⟩ := hKf (fun _ => 0)
      have := hW.go _ w' hf' (hs1.callP hperm hs')
      simpa [mean, putT] using this) N (List.range' 0 N) (Array.replicate l.toArray.size false) a Y (fun _ => none) { w with drawn := w.drawn + 1 } (by simp) ⟨by simp, List.pairwise_lt_range', by simp, ?_, ?_, ?_⟩ (by
        intro i hi _ _ _ _ _
        simp [hi]) (by rw [hno.2]; exact hlow.perm (X := []) (by simp)) hS
  · rw [hno.1, show N + (l.toArray.size - N) = l.toArray.size from by simp; omega] at this
    exact this
  · intro i hi
    have : i < l.toArray.size := by simp; omega
    rw [getD_tf (by simpa using this)]
    simp [hi]
  · intro i _ hi
    rw [getD_tf (by simpa using hi)]
    simp
  · intro i o ho hl
    have hi := (Array.getElem?_eq_some_iff.1 ho).1
    rw [getD_tf (by simpa using hi)] at hl
    simp at hl
end
end Go.Sl
namespace Go.Sl
open Go
section
variable {P : Program} {n : Nat} {R : HL} {cx : Cx} {k : List Kont} {ρ : Env} {L : List HL}
def burst : HL → List HL
  | [] => []
  | p :: r => [p] :: burst r
theorem burst_flat : ∀ c : HL, (burst c).flatten = c
  | [] => rfl
  | p :: r => by simp [burst, burst_flat r]
def burstAt? : Nat → List HL → Option (List HL)
  | _, [] => none
  | 0, c :: L => some (burst c ++ L)
  | i + 1, c :: L => match burstAt? i L with
    | some M => some (c :: M)
    | none => none
theorem burstAt?_flat : ∀ {i : Nat} {L M : List HL}, burstAt? i L = some M → L.flatten = M.flatten
  | _, [], _, h => by simp [burstAt?] at h
  | 0, c :: L, M, h => by simp only [burstAt?, Option.some.injEq] at h; subst h; simp [burst_flat]
  | i + 1, c :: L, M, h => by
    simp only [burstAt?] at h
    split at h
    · rename_i M' hM
      cases h
      simp [burstAt?_flat hM]
    · cases h
def firsts : Nat → HL → Option (List HL)
  | 0, c => some [c]
  | _ + 1, [] => none
  | k + 1, p :: r => match firsts k r with
    | some A => some ([p] :: A)
    | none => none
theorem firsts_flat : ∀ {k : Nat} {c : HL} {A : List HL}, firsts k c = some A → A.flatten = c
  | 0, c, A, h => by simp only [firsts, Option.some.injEq] at h; subst h; simp
  | _ + 1, [], A, h => by simp [firsts] at h
  | k + 1, p :: r, A, h => by
    simp only [firsts] at h
    split at h
    · rename_i A' hA
      cases h
      simp [firsts_flat hA]
    · cases h
def firstsAt? (k : Nat) : Nat → List HL → Option (List HL)
  | _, [] => none
  | 0, c :: L => match firsts k c with
    | some A => some (A ++ L)
    | none => none
  | i + 1, c :: L => match firstsAt? k i L with
    | some M => some (c :: M)
    | none => none
theorem firstsAt?_flat {k : Nat} : ∀ {i : Nat} {L M : List HL}, firstsAt? k i L = some M → L.flatten = M.flatten
  | _, [], _, h => by simp [firstsAt?] at h
  | 0, c :: L, M, h => by
    simp only [firstsAt?] at h
    split at h
    · rename_i A hA
      cases h
      simp [firsts_flat hA]
    · cases h
  | i + 1, c :: L, M, h => by
    simp only [firstsAt?] at h
    split at h
    · rename_i M' hM
      cases h
      simp [firstsAt?_flat hM]
    · cases h
theorem W.split (i : Nat) {M : List HL} (h : burstAt? i L = some M) (hk : W P n R cx k ρ M) : W P n R cx k ρ L := W.regroup (burstAt?_flat h) hk
theorem W.splitN (m i : Nat) {M : List HL} (h : firstsAt? m i L = some M) (hk : W P n R cx k ρ M) : W P n R cx k ρ L := W.regroup (firstsAt?_flat h) hk
def remove? : Nat → List HL → Option (HL × List HL)
  | _, [] => none
  | 0, c :: L => some (c, L)
  | i + 1, c :: L => match remove? i L with
    | some (d, M) => some (d, c :: M)
    | none => none
theorem remove?_perm : ∀ {i : Nat} {L M : List HL} {d : HL}, remove? i L = some (d, M) → L.flatten.Perm (d ++ M.flatten)
  | _, [], _, _, h => by simp [remove?] at h
  | 0, c :: L, M, d, h => by simp only [remove?, Option.some.injEq, Prod.mk.injEq] at h; obtain ⟨rfl, rfl⟩ := h; simp
  | i + 1, c :: L, M, d, h => by
    simp only [remove?] at h
    split at h
    · rename_i d' M' hM
      cases h
      have ih := remove?_perm hM
      simp only [List.flatten_cons]
      refine (List.Perm.append_left c ih).trans ?_
      rw [← List.append_assoc, ← List.append_assoc]
      exact List.Perm.append_right _ List.perm_append_comm
    · cases h
def gather : List Nat → List HL → Option (HL × List HL)
  | [], L => some ([], L)
  | [i], L => remove? i L
  | i :: is, L => match remove? i L with
    | none => none
    | some (c, L1) => match gather is L1 with
      | none => none
      | some (d, L2) => some (c ++ d, L2)
theorem gather_perm : ∀ {is : List Nat} {L M : List HL} {d : HL}, gather is L = some (d, M) → L.flatten.Perm (d ++ M.flatten)
  | [], L, M, d, h => by simp only [gather, Option.some.injEq, Prod.mk.injEq] at h; obtain ⟨rfl, rfl⟩ := h; simp
  | [i], L, M, d, h => remove?_perm h
  | i :: i2 :: is, L, M, d, h => by
    simp only [gather] at h
    split at h
    · cases h
    · rename_i c L1 hr
      split at h
      · cases h
      · rename_i d' L2 hg
        cases h
        rw [List.append_assoc]
        exact (remove?_perm hr).trans (List.Perm.append_left c (gather_perm (is := i2 :: is) hg))
theorem W.groupV (is : List Nat) {d : HL} {M : List HL} (h : gather is L = some (d, M)) (hk : W P n R cx k ρ (d :: M)) : W P n R cx k ρ L :=
  ⟨fun a w hf hs => hk.go a w hf (hs.perm (X := []) (by simpa using gather_perm h))⟩
theorem W.group (is : List Nat) {d d' : HL} {M : List HL} (h : gather is L = some (d, M)) (hd : norm? d = some d') (hk : W P n R cx k ρ (d' :: M)) : W P n R cx k ρ L := by
  have := norm?_eq hd
  subst this
  exact ⟨fun a w hf hs => hk.go a w hf (hs.perm (X := []) (by simpa using gather_perm h))⟩
def front? : Nat → List HL → Option (List HL × List HL)
  | 0, L => some ([], L)
  | _ + 1, [] => none
  | m + 1, c :: L => match front? m L with
    | some (A, B) => some (c :: A, B)
    | none => none
theorem front?_flat : ∀ {m : Nat} {L A B : List HL}, front? m L = some (A, B) → L.flatten = A.flatten ++ B.flatten
  | 0, L, A, B, h => by simp only [front?, Option.some.injEq, Prod.mk.injEq] at h; obtain ⟨rfl, rfl⟩ := h; simp
  | _ + 1, [], _, _, h => by simp [front?] at h
  | m + 1, c :: L, A, B, h => by
    simp only [front?] at h
    split at h
    · rename_i A' B' hf
      cases h
      simp [front?_flat hf]
    · cases h
theorem FinOk.first {rs : List ResultVar} {post : Value → List HL → Prop} {vs : List Value} {A B : List HL} (m : Nat) (h : ResOk P R ρ L rs vs) (hm : front? m L = some (A, B)) (hp : post (pack vs) A) : FinOk P R rs post ρ L :=
  ⟨⟨vs, A, h, ⟨B.flatten, by rw [front?_flat hm]⟩, hp⟩⟩
theorem RoIn.all {R : HL} {rest : List HL} {ro : HL} (h : ∀ p ∈ ro, p ∈ R) : RoIn R rest ro := fun p hp => .inr (h p hp)
theorem W.nw {all : Array Oper} {d : Nat} {op : Op} {ty : TypeId} {pos : String} {af : Array Edge} {l : List Oper} {o : Obj} {f : Nat → Value} (h : NewOf P n R cx op ty ρ L o f) (hd : d < n)
    (hk : ∀ b, W P n R cx (.ops all l :: k) ((d, f b) :: ρ) ([(b, o)] :: L)) : W P n R cx (.ops all (⟨some d, op, ty, pos, af, none⟩ :: l) :: k) ρ L := W.newOf h.go hd hk
theorem RoIn.ownSub {rest : List HL} {H ro : HL} (i : Nat) (h : rest[i]? = some H) (hs : ∀ p ∈ ro, p ∈ H) : RoIn R rest ro := fun p hp => .inl (List.mem_flatten.2 ⟨_, List.mem_of_getElem? h, hs p hp⟩)
theorem W.nilChunk (hk : W P n R cx k ρ ([] :: L)) : W P n R cx k ρ L := W.regroup (by simp) hk
theorem app {T : Tab} (hT : TabOk P T) {t e m bytes ty : Nat} {s x : Operand} {cs news : List Value} {a : Option Addr} {len cap nx cxx bx ox : Nat} {H : HL} {lx : List Value} {ex : TypeId} {frx : Nat × Nat}
    (ht : look? T.sls t = some e) (hi : look? T.infs e = some (m, bytes)) (hs : ev? ρ s = some (.slice a len cap)) (ho : Own m e cs a len cap H)
    (hH : ∀ p ∈ H, p ∈ L.flatten) (hx : ev? ρ x = some (.slice (some ⟨bx, ox, none⟩) nx cxx)) (hb : At R L bx (.cells lx.toArray ex frx)) (hn : seg? lx ox (nx * m) = some news)
    (h1 : allOne news = true) (hbig : (len + nx) * bytes ≤ 140737488355328) (hbig2 : len + nx ≤ 140737488355328) :
    Prim P n R cx (.call ⟨.builtin .append, #[s, x], #[t, t]⟩) ty ρ L [H] (fun v L' => ∃ a' cap' H', v = .slice a' (len + nx) cap' ∧ L' = [H'] ∧ Own m e (cs ++ news) a' (len + nx) cap' H') :=
  append_some (hT.infs _ (look?_mem hi)) (hT.sls _ (look?_mem ht)) hs ho hH hx hb hn h1 hbig hbig2
theorem Own.roSl {m e : Nat} {cs : List Value} {a : Option Addr} {len cap : Nat} {H : HL} (h : Own m e cs a len cap H) : RoSl m cs a len H := by
  rcases h.2 with ⟨rfl, rfl, rfl, rfl⟩ | ⟨b, l, rfl, rfl, h1, h2, h3⟩
  · exact ⟨h.1, .inl ⟨rfl, rfl⟩⟩
  · exact ⟨h.1, .inr ⟨b, 0, l, e, (0, 0), rfl, rfl, by rw [h2, Nat.zero_add]; exact Nat.mul_le_mul_right _ h1, by simpa using h3⟩⟩
theorem NewOf.makeN {e m bytes : Nat} {t ty : TypeId} {x y : Operand} {z : Value} {zs : List Value} {kl kc : IntKind} {len cap : Nat} {il ic : Int}
    (hi : InfOk P e m bytes) (hz : ZeroOf P e z) (hzc : cells? z = some zs) (hzl : zs.length = m) (ht : P.underlying t = some (.slice e))
    (hx : ev? ρ x = some (.int kl il)) (hy : ev? ρ y = some (.int kc ic)) (hl : il = (len : Int)) (hc : ic = (cap : Int)) (hlc : len ≤ cap) (hb : bytes * cap ≤ 281474976710656) (hb2 : cap ≤ 281474976710656) :
    NewOf P n R cx (.makeSlice t x y) ty ρ L (.cells (repL cap zs).toArray e (0, 0)) (fun b => .slice (some ⟨b, 0, none⟩) len cap) := by
  obtain ⟨i, z', hi1, hi2, rfl, rfl, hi5, hi6⟩ := hi
  have hzz : z' = z := by
    have := hz default
    simp [zeroValue, typeInfo, hi1, hi2] at this
    exact this
  subst hzz
  have hcz := cells?_eq hzc
  refine ⟨fun oo a w ho hty hf hs => ⟨w.drawn, ?_⟩⟩
  subst hl hc
  have hr := run_make (P := P) w t e i z' ht hi1 hi2 kl kc len cap (by omega) (by omega) (by have : ((i.bytes * cap : Nat) : Int) ≤ 281474976710656 := by omega
                                                                                             rwa [Int.natCast_mul] at this) (by omega)
  unfold execOp; rw [ho]
  show _ = Result.ok _ (w.alloc _)
  simp only [hf.ev hx, hf.ev hy, Sem.run_bind, hr, Result.andThen_ok, Sem.run_pure, Int.toNat_natCast]
  have : madeCells z'.cells (cap * i.size) = (repL cap zs).toArray := by
    apply Array.ext'
    have h1 := repL_eq zs i.size hzl hi6 cap
    rw [← h1]
    simp [madeCells, hcz, hzl]
  rw [this]
theorem NewOf.mks {T : Tab} (hT : TabOk P T) {t e ty m bytes : Nat} {x y : Operand} {z : Value} {zs : List Value} {kl kc : IntKind} {len cap : Nat} {il ic : Int}
    (ht : look? T.sls t = some e) (hi : look? T.infs e = some (m, bytes)) (hz : look? T.zeros e = some z) (hzc : cells? z = some zs) (hzl : zs.length = m)
    (hx : ev? ρ x = some (.int kl il)) (hy : ev? ρ y = some (.int kc ic)) (hl : il = (len : Int)) (hc : ic = (cap : Int)) (hlc : len ≤ cap) (hb : bytes * cap ≤ 281474976710656) (hb2 : cap ≤ 281474976710656) :
    NewOf P n R cx (.makeSlice t x y) ty ρ L (.cells (repL cap zs).toArray e (0, 0)) (fun b => .slice (some ⟨b, 0, none⟩) len cap) :=
  NewOf.makeN (hT.infs _ (look?_mem hi)) (hT.zeros _ (look?_mem hz)) hzc hzl (hT.sls _ (look?_mem ht)) hx hy hl hc hlc hb hb2
theorem repL_len (l : List Value) : ∀ j, (repL j l).length = j * l.length
  | 0 => by simp [repL]
  | j + 1 => by simp [repL, repL_len l j, Nat.add_mul]; omega
theorem map_eraseIdx {α β : Type} (f : α → β) : ∀ (l : List α) (j : Nat), (l.eraseIdx j).map f = (l.map f).eraseIdx j
  | [], _ => by simp
  | _ :: _, 0 => by simp
  | x :: l, j + 1 => by simp [map_eraseIdx f l j]
section
variable {α : Type}
def mget : List (Int × α) → Int → Option α
  | [], _ => none
  | (a, v) :: r, x => if a = x then some v else mget r x
def mput : List (Int × α) → Int → α → List (Int × α)
  | [], x, v => [(x, v)]
  | (a, u) :: r, x, v => if a = x then (x, v) :: r else (a, u) :: mput r x v
def mdel : List (Int × α) → Int → List (Int × α)
  | [], _ => []
  | (a, u) :: r, x => if a = x then r else (a, u) :: mdel r x
def MapIs (kk : IntKind) (f : α → Value) (es : List MapEntry) (m : List (Int × α)) : Prop := es.map (fun e => (e.key, e.val)) = m.map (fun p => (Value.int kk p.1, f p.2))
theorem find_spec {kk k' : IntKind} {f : α → Value} (x : Int) : ∀ (es : List MapEntry) (m : List (Int × α)) (i : Nat), MapIs kk f es m →
    (mget m x = none ∧ Instr.findNow (.int k') (.int kk x) es i = some none ∧ (∀ v, mput m x v = m ++ [(x, v)]) ∧ mdel m x = m) ∨
    ∃ j v e, mget m x = some v ∧ Instr.findNow (.int k') (.int kk x) es i = some (some (i + j, f v)) ∧ es[j]? = some e ∧ e.key = .int kk x ∧ j < m.length ∧ (∀ u, mput m x u = m.set j (x, u)) ∧ mdel m x = m.eraseIdx j
  | [], [], i, _ => .inl ⟨rfl, rfl, fun _ => rfl, rfl⟩
  | [], _ :: _, i, h => by simp [MapIs] at h
  | _ :: _, [], i, h => by simp [MapIs] at h
  | e :: es, (a, u) :: m, i, h => by
    simp only [MapIs, List.map_cons, List.cons.injEq, Prod.mk.injEq] at h
    obtain ⟨⟨h1, h2⟩, h3⟩ := h
    by_cases ha : a = x
    · subst ha
      refine .inr ⟨0, u, e, by simp [mget], by simp [Instr.findNow, Instr.sameNow, h1, h2], rfl, h1, by simp, fun v => by simp [mput], by simp [mdel]⟩
    · have hne : (x == a) = false := by simpa using fun h => ha h.symm
      rcases find_spec (kk := kk) (k' := k') (f := f) x es m (i + 1) h3 with ⟨g1, g2, g3, g4⟩ | ⟨j, v, e', g1, g2, g3, g4, g5, g6, g7⟩
      · exact .inl ⟨by simp [mget, ha, g1], by simp [Instr.findNow, Instr.sameNow, h1, hne, g2], fun v => by simp [mput, ha, g3], by simp [mdel, ha, g4]⟩
      · refine .inr ⟨j + 1, v, e', by simp [mget, ha, g1], ?_, by simpa using g3, g4, by simpa using g5, fun v => by simp [mput, ha, g6], by simp [mdel, ha, g7]⟩
        simp only [Instr.findNow, Instr.sameNow, h1, if_true, hne, g2]
        rw [show i + 1 + j = i + (j + 1) from by omega]
variable {f : α → Value}
theorem OpVal.lookup2 {t kt et ty : TypeId} {x y : Operand} {b clock : Nat} {es : Array MapEntry} {m : List (Int × α)} {kk : IntKind} {key : Int} {z : Value}
    (ht : P.underlying t = some (.map kt et)) (hk : P.underlying kt = some (.int kk)) (hz : ZeroOf P et z) (hx : ev? ρ x = some (.map (some b))) (hy : ev? ρ y = some (.int kk key))
    (hb : At R L b (.map es clock)) (hm : MapIs kk f es.toList m) :
    OpVal P n R cx (.lookup t x y true) ty ρ L (.tuple #[match mget m key with | some v => f v | none => z, .bool (mget m key).isSome]) := by
  refine ⟨fun oo a w ho hty hf hs => ?_⟩
  have hg := MapKept.run_getObj_map (P := P) (hb.heap hs)
  have hck := fun e => MapKept.run_checkKey (P := P) (w := w) (k := .int kk key) hk (by simp [MapKept.IsKey]) e 9999
  unfold execOp; rw [ho]
  rcases find_spec (k' := kk) key es.toList m 0 hm with ⟨g1, g2, _, _⟩ | ⟨j, v, e, g1, g2, _, _, _, _, _⟩
  · simp [Instr.lookup, hf.ev hx, hf.ev hy, run_underlying ht, hg, hck, MapKept.run_findKey hk g2, hz w, g1, Result.andThen]
  · simp [Instr.lookup, hf.ev hx, hf.ev hy, run_underlying ht, hg, hck, MapKept.run_findKey hk g2, g1, Result.andThen]
def IsMp (kk : IntKind) (f : α → Value) (m : List (Int × α)) (b : Nat) (H : HL) : Prop := ∃ es clock, H = [(b, .map es clock)] ∧ MapIs kk f es.toList m
theorem St.setO (w : World) (i b : Nat) (o o' : Obj) (hg : w.heap[b]? = some o) : St w [b] [] [[(b, o')]] { w with heap := w.heap.setIfInBounds b o', drawn := i } := by
  refine ⟨?_, by simp [ids], ?_, ?_, by simp, fun _ h => (by cases h), ⟨rfl, rfl, rfl⟩⟩
  · intro p hp
    simp at hp
    subst hp
    exact (MapKept.heap_set hg).1
  · intro j _ hj
    exact (MapKept.heap_set hg).2 j (by simpa using hj)
  · intro j hj
    simp [ids] at hj
    simp [hj]
structure Skips (P : Program) (n : Nat) (R : HL) (cx : Cx) (op : Op) (ty : TypeId) (ρ : Env) (L : List HL) (pre : List HL) (post : List HL → Prop) : Prop where
  go : ∀ (oo : Oper) a w, oo.op = op → oo.type = ty → Fits n ρ a → St cx.w0 cx.S0 R L w → ∃ L' w', (execOp a.eval oo).run P w = .ok .skip w' ∧ post L' ∧ St w (ids pre.flatten) [] L' w'
theorem W.skips {all : Array Oper} {op : Op} {ty : TypeId} {pos : String} {af : Array Edge} {l : List Oper} {pre rest : List HL} {post : List HL → Prop}
    (h : Skips P n R cx op ty ρ L pre post) (hsel : Sel L pre rest) (hk : ∀ L', post L' → W P n R cx (.ops all l :: k) ρ (L' ++ rest)) :
    W P n R cx (.ops all (⟨none, op, ty, pos, af, none⟩ :: l) :: k) ρ L := by
  refine ⟨fun a w hf hs => ?_⟩
  obtain ⟨L', w', hr, hp, hst⟩ := h.go ⟨none, op, ty, pos, af, none⟩ a w rfl rfl hf hs
  simp only [mean, wpList, Region.wanted, if_true]
  refine .inl ?_
  unfold Oper.wp
  rw [hr]
  exact (hk L' hp).go _ _ (by simpa [Act.put] using hf) (hs.call hsel hst)
theorem mapPut {t kt et ty : TypeId} {x y u : Operand} {b : Nat} {m : List (Int × α)} {kk : IntKind} {key : Int} {v : α} {H : HL}
    (ht : P.underlying t = some (.map kt et)) (hk : P.underlying kt = some (.int kk)) (hx : ev? ρ x = some (.map (some b))) (hy : ev? ρ y = some (.int kk key)) (hu : ev? ρ u = some (f v))
    (hH : ∀ p ∈ H, p ∈ L.flatten) (hm : IsMp kk f m b H) : Skips P n R cx (.mapUpdate t x y u) ty ρ L [H] (fun L' => ∃ H', L' = [H'] ∧ IsMp kk f (mput m key v) b H') := by
  obtain ⟨es, clock, rfl, hm⟩ := hm
  refine ⟨fun oo a w ho hty hf hs => ?_⟩
  have hb := hs.has (b, .map es clock) (hH _ (by simp))
  have hg := MapKept.run_getObj_map (P := P) hb
  have hik : MapKept.IsKey (.int kk) (.int kk key) := by simp [MapKept.IsKey]
  have hck := fun e => MapKept.run_checkKey (P := P) (w := w) (k := .int kk key) hk hik e 9999
  rcases find_spec (k' := kk) key es.toList m 0 hm with ⟨g1, g2, g3, _⟩ | ⟨j, v0, e, g1, g2, g3, g4, g5, g6, _⟩
  · refine ⟨_, { w with heap := w.heap.setIfInBounds b (.map (es.push { key := .int kk key, val := f v, born := clock }) (clock + 1)) }, ?_, ⟨_, rfl, es.push { key := .int kk key, val := f v, born := clock }, clock + 1, rfl, ?_⟩, ?_⟩
    · unfold execOp; rw [ho]
      simp [Instr.mapUpdate, hf.ev hx, hf.ev hy, hf.ev hu, run_underlying ht, hg, hck, MapKept.run_findKey hk g2, MapKept.run_setObj_map _ hb, Result.andThen]
    · unfold MapIs at hm ⊢
      rw [g3]
      simp [hm]
    · simpa [ids] using St.setO w w.drawn b _ (.map (es.push { key := .int kk key, val := f v, born := clock }) (clock + 1)) hb
  · have hes : es[0 + j]? = some e := by simpa using g3
    refine ⟨_, { w with heap := w.heap.setIfInBounds b (.map (es.modify (0 + j) fun e => { e with key := .int kk key, val := f v }) clock) }, ?_, ⟨_, rfl, es.modify (0 + j) fun e => { e with key := .int kk key, val := f v }, clock, rfl, ?_⟩, ?_⟩
    · unfold execOp; rw [ho]
      simp [Instr.mapUpdate, hf.ev hx, hf.ev hy, hf.ev hu, run_underlying ht, hg, hck, MapKept.run_findKey hk g2, Result.andThen]
      have hes' : es[j]? = some e := by simpa using g3
      simp [hes', g4, MapKept.run_keyThatStays hik, MapKept.run_setObj_map _ hb]
    · unfold MapIs at hm ⊢
      rw [g6, List.map_set, ← hm, Nat.zero_add]
      apply List.ext_getElem?
      intro q
      simp only [Array.toList_modify, List.getElem?_map, List.getElem?_modify, List.getElem?_set]
      have hjl : j < es.toList.length := (List.getElem?_eq_some_iff.1 g3).1
      by_cases hq : j = q
      · subst hq
        simp only [List.length_map, hjl, if_true]
        rw [g3]
        rfl
      · simp [hq]
    · simpa [ids] using St.setO w w.drawn b _ (.map (es.modify (0 + j) fun e => { e with key := .int kk key, val := f v }) clock) hb
theorem mapDel {t kt et ty : TypeId} {x y : Operand} {b : Nat} {m : List (Int × α)} {kk : IntKind} {key : Int} {H : HL}
    (ht : P.underlying t = some (.map kt et)) (hk : P.underlying kt = some (.int kk)) (hx : ev? ρ x = some (.map (some b))) (hy : ev? ρ y = some (.int kk key))
    (hH : ∀ p ∈ H, p ∈ L.flatten) (hm : IsMp kk f m b H) : Prim P n R cx (.call ⟨.builtin .delete, #[x, y], #[t, kt]⟩) ty ρ L [H] (fun _ L' => ∃ H', L' = [H'] ∧ IsMp kk f (mdel m key) b H') := by
  obtain ⟨es, clock, rfl, hm⟩ := hm
  refine ⟨fun oo a w ho hty hf hs => ?_⟩
  have hb := hs.has (b, .map es clock) (hH _ (by simp))
  have hg := MapKept.run_getObj_map (P := P) hb
  have hik : MapKept.IsKey (.int kk) (.int kk key) := by simp [MapKept.IsKey]
  have hck := fun e => MapKept.run_checkKey (P := P) (w := w) (k := .int kk key) hk hik e 9999
  rcases find_spec (k' := kk) key es.toList m 0 hm with ⟨g1, g2, _, g3⟩ | ⟨j, v0, e, g1, g2, g3, g4, g5, _, g6⟩
  · refine ⟨.tuple #[], _, { w with heap := w.heap.setIfInBounds b (.map es clock) }, ?_, ⟨_, rfl, es, clock, rfl, by rw [g3]; exact hm⟩, ?_⟩
    · unfold execOp; rw [ho]
      simp [resolve, invoke, builtin, Builtin.delete_, hf.ev hx, hf.ev hy, run_underlying ht, hg, hck, MapKept.run_findKey hk g2, MapKept.run_setObj_map _ hb, Result.andThen]
    · simpa [ids] using St.setO w w.drawn b _ (.map es clock) hb
  · refine ⟨.tuple #[], _, { w with heap := w.heap.setIfInBounds b (.map (es.eraseIdxIfInBounds (0 + j)) clock) }, ?_, ⟨_, rfl, es.eraseIdxIfInBounds (0 + j), clock, rfl, ?_⟩, ?_⟩
    · unfold execOp; rw [ho]
      simp [resolve, invoke, builtin, Builtin.delete_, hf.ev hx, hf.ev hy, run_underlying ht, hg, hck, MapKept.run_findKey hk g2, MapKept.run_setObj_map _ hb, Result.andThen]
    · unfold MapIs at hm ⊢
      rw [g6, map_eraseIdx, ← hm, Nat.zero_add, Array.toList_eraseIdxIfInBounds, map_eraseIdx]
    · simpa [ids] using St.setO w w.drawn b _ (.map (es.eraseIdxIfInBounds (0 + j)) clock) hb
theorem mapClear {t kt et ty : TypeId} {x : Operand} {b : Nat} {m : List (Int × α)} {kk : IntKind} {H : HL}
    (ht : P.underlying t = some (.map kt et)) (hx : ev? ρ x = some (.map (some b))) (hH : ∀ p ∈ H, p ∈ L.flatten) (hm : IsMp kk f m b H) :
    Prim P n R cx (.call ⟨.builtin .clear, #[x], #[t]⟩) ty ρ L [H] (fun _ L' => ∃ H', L' = [H'] ∧ IsMp kk f [] b H') := by
  obtain ⟨es, clock, rfl, hm⟩ := hm
  refine ⟨fun oo a w ho hty hf hs => ?_⟩
  have hb := hs.has (b, .map es clock) (hH _ (by simp))
  have hg := MapKept.run_getObj_map (P := P) hb
  refine ⟨.tuple #[], _, { w with heap := w.heap.setIfInBounds b (.map #[] clock) }, ?_, ⟨_, rfl, #[], clock, rfl, by simp [MapIs]⟩, ?_⟩
  · unfold execOp; rw [ho]
    simp [resolve, invoke, builtin, Builtin.clear_, hf.ev hx, run_underlying ht, hg, MapKept.run_setObj_map _ hb, Result.andThen]
  · simpa [ids] using St.setO w w.drawn b _ (.map #[] clock) hb
end
theorem NewOf.map {t ty : TypeId} : NewOf P n R cx (.makeMap t none) ty ρ L (.map #[] 0) (fun b => .map (some b)) := by
  refine ⟨fun oo a w ho hty hf hs => ⟨w.drawn, ?_⟩⟩
  unfold execOp; rw [ho]
  show _ = Result.ok _ (w.alloc _)
  have : (Instr.makeMap t none).run P w = .ok (.map (some w.heap.size)) (w.alloc (.map #[] 0)) := rfl
  simp [this]
theorem OpVal.slAr {T : Tab} (hT : TabOk P T) {t e ty : TypeId} {x : Operand} {a : Option Addr} {len cap m : Nat} (ht : look? T.ars t = some (m, e)) (hx : ev? ρ x = some (.slice a len cap)) (hl : m ≤ len) :
    OpVal P n R cx (.sliceToArrayPointer t x) ty ρ L (.pointer a) := by
  refine ⟨fun oo ac w ho hty hf hs => ?_⟩
  have hu := hT.ars _ (look?_mem ht)
  unfold execOp; rw [ho]
  simp [Instr.arrayAt, underlying, hu, hf.ev hx, Nat.not_lt.2 hl]
end
end Go.Sl
namespace Go.Sl
set_option linter.unusedVariables false
open Go
section
variable {P : Program} {n : Nat} {R : HL} {cx : Cx} {k : List Kont} {ρ : Env} {L : List HL}
theorem ndT {p : Prop} [Decidable p] (h : p) : (!decide p) = false := by simp [h]
theorem ndF {p : Prop} [Decidable p] (h : ¬p) : (!decide p) = true := by simp [h]
section
variable {all : Array Oper} {l : List Oper} {d : Nat} {g : Nat × Bool} {od : Option Nat} {op : Op} {t t' ty : TypeId} {x y c : Operand} {pos : String} {af : Array Edge} {bo : BinOp} {ca cb : Code}
theorem W.isLoad (h : W P n R cx (.ops all (⟨some d, .load t x, ty, pos, af, none⟩ :: l) :: k) ρ L) : W P n R cx (.ops all (⟨some d, .load t x, ty, pos, af, none⟩ :: l) :: k) ρ L := h
theorem W.isStore (h : W P n R cx (.ops all (⟨none, .store t x y, ty, pos, af, none⟩ :: l) :: k) ρ L) : W P n R cx (.ops all (⟨none, .store t x y, ty, pos, af, none⟩ :: l) :: k) ρ L := h
theorem W.isNew (h : W P n R cx (.ops all (⟨some d, .alloc t, ty, pos, af, none⟩ :: l) :: k) ρ L) : W P n R cx (.ops all (⟨some d, .alloc t, ty, pos, af, none⟩ :: l) :: k) ρ L := h
theorem W.isBox (h : W P n R cx (.ops all (⟨some d, .box t x, ty, pos, af, none⟩ :: l) :: k) ρ L) : W P n R cx (.ops all (⟨some d, .box t x, ty, pos, af, none⟩ :: l) :: k) ρ L := h
theorem W.isPick (h : W P n R cx (.ops all (⟨some d, .pick c x y, ty, pos, af, none⟩ :: l) :: k) ρ L) : W P n R cx (.ops all (⟨some d, .pick c x y, ty, pos, af, none⟩ :: l) :: k) ρ L := h
theorem W.isBin (h : W P n R cx (.ops all (⟨some d, .binOp bo t x y t', ty, pos, af, none⟩ :: l) :: k) ρ L) : W P n R cx (.ops all (⟨some d, .binOp bo t x y t', ty, pos, af, none⟩ :: l) :: k) ρ L := h
theorem W.isGuard (h : W P n R cx (.ops all (⟨od, op, ty, pos, af, some g⟩ :: l) :: k) ρ L) : W P n R cx (.ops all (⟨od, op, ty, pos, af, some g⟩ :: l) :: k) ρ L := h
theorem W.isCond (h : W P n R cx (.code (.cond c ca cb) :: k) ρ L) : W P n R cx (.code (.cond c ca cb) :: k) ρ L := h
variable {el : List Kd} {fl : List (Nat × Obj)} {Y : List HL} {K : Env → List HL → Prop} {ops : Array Oper}
theorem WD.isLoad (h : WD P n R cx ops el fl (⟨some d, .load t x, ty, pos, af, none⟩ :: l) ρ Y K) : WD P n R cx ops el fl (⟨some d, .load t x, ty, pos, af, none⟩ :: l) ρ Y K := h
theorem WD.isStore (h : WD P n R cx ops el fl (⟨none, .store t x y, ty, pos, af, none⟩ :: l) ρ Y K) : WD P n R cx ops el fl (⟨none, .store t x y, ty, pos, af, none⟩ :: l) ρ Y K := h
theorem WD.isNew (h : WD P n R cx ops el fl (⟨some d, .alloc t, ty, pos, af, none⟩ :: l) ρ Y K) : WD P n R cx ops el fl (⟨some d, .alloc t, ty, pos, af, none⟩ :: l) ρ Y K := h
theorem WD.isBox (h : WD P n R cx ops el fl (⟨some d, .box t x, ty, pos, af, none⟩ :: l) ρ Y K) : WD P n R cx ops el fl (⟨some d, .box t x, ty, pos, af, none⟩ :: l) ρ Y K := h
theorem WD.isPick (h : WD P n R cx ops el fl (⟨some d, .pick c x y, ty, pos, af, none⟩ :: l) ρ Y K) : WD P n R cx ops el fl (⟨some d, .pick c x y, ty, pos, af, none⟩ :: l) ρ Y K := h
theorem WD.isBin (h : WD P n R cx ops el fl (⟨some d, .binOp bo t x y t', ty, pos, af, none⟩ :: l) ρ Y K) : WD P n R cx ops el fl (⟨some d, .binOp bo t x y t', ty, pos, af, none⟩ :: l) ρ Y K := h
theorem WD.isGuard (h : WD P n R cx ops el fl (⟨od, op, ty, pos, af, some g⟩ :: l) ρ Y K) : WD P n R cx ops el fl (⟨od, op, ty, pos, af, some g⟩ :: l) ρ Y K := h
end
theorem OpVal.arSl {T : Tab} (hT : TabOk P T) {t e ty : TypeId} {x : Operand} {b off len m : Nat} {ag : Bool}
    (hx : ev? ρ x = some (.pointer (some ⟨b, off, none⟩))) (ht : look? T.ars t = some (len, e)) (hz : look? T.tys e = some (ag, m)) :
    OpVal P n R cx (.slice t x none none none) ty ρ L (.slice (some ⟨b, off, none⟩) len len) := by
  refine ⟨fun oo a w ho hty hf hs => ?_⟩
  have hu := hT.ars _ (look?_mem ht)
  have hz' := (hT.tys _ (look?_mem hz)).2
  unfold execOp; rw [ho]
  have h3 : (if len = 0 then (⟨b, off, none⟩ : Addr) else (⟨b, off, none⟩ : Addr).add 0) = ⟨b, off, none⟩ := by split <;> simp [Addr.add]
  simp [Instr.sliceAt, Instr.slice, Instr.sliceBounds, Instr.sureAddr, underlying, hu, hf.ev hx, hz' w, h3]
theorem OpVal.pieceG {T : Tab} (hT : TabOk P T) {t e ty : TypeId} {x : Operand} {lo hi mx : Option Operand} {b off len cap m l h c : Nat} {ag : Bool}
    (hx : ev? ρ x = some (.slice (some ⟨b, off, none⟩) len cap)) (ht : look? T.sls t = some e) (hz : look? T.tys e = some (ag, m))
    (hl : match lo with | none => l = 0 | some o => ∃ kk, ev? ρ o = some (.int kk (l : Int)))
    (hh : match hi with | none => h = len ∧ mx = none | some o => ∃ kk, ev? ρ o = some (.int kk (h : Int)))
    (hm : match mx with | none => c = cap | some o => ∃ kk, ev? ρ o = some (.int kk (c : Int)))
    (h1 : l ≤ h) (h2 : h ≤ c) (h3 : c ≤ cap) :
    OpVal P n R cx (.slice t x lo hi mx) ty ρ L (.slice (some ⟨b, if c = l then off else off + l * m, none⟩) (h - l) (c - l)) := by
  refine ⟨fun oo a w ho hty hf hs => ?_⟩
  have hu := hT.sls _ (look?_mem ht)
  have hz' := (hT.tys _ (look?_mem hz)).2
  have bnd : ∀ (o : Operand) (v y : Nat) (cd : BoundsCode), (∃ kk, ev? ρ o = some (.int kk (v : Int))) → v ≤ y → (Instr.sliceBound (a.eval o) y cd).run P w = .ok v w := by
    rintro o v y cd ⟨kk, ho⟩ hv
    simp [Instr.sliceBound, hf.ev ho, asIntOf, hv]
  unfold execOp; rw [ho]
  have hne2 : (if c = l then some (⟨b, off, none⟩ : Addr) else some ((⟨b, off, none⟩ : Addr).add (l * m))) = some ⟨b, if c = l then off else off + l * m, none⟩ := by split <;> simp [Addr.add_none']
  cases mx with
  | none =>
    simp only at hm
    subst hm
    cases hi with
    | none =>
      simp only at hh
      obtain ⟨rfl, -⟩ := hh
      cases lo with
      | none =>
        simp only at hl
        subst hl
        simp [Instr.sliceAt, Instr.slice, Instr.sliceBounds, underlying, hu, hf.ev hx, hz' w, Addr.add_none']
      | some o =>
        simp only at hl
        simp [Instr.sliceAt, Instr.slice, Instr.sliceBounds, underlying, hu, hf.ev hx, hz' w, bnd o l _ _ hl h1, hne2]
    | some o2 =>
      simp only at hh
      cases lo with
      | none =>
        simp only at hl
        subst hl
        simp [Instr.sliceAt, Instr.slice, Instr.sliceBounds, underlying, hu, hf.ev hx, hz' w, bnd o2 h _ _ hh h2, Addr.add_none']
      | some o =>
        simp only at hl
        simp [Instr.sliceAt, Instr.slice, Instr.sliceBounds, underlying, hu, hf.ev hx, hz' w, bnd o2 h _ _ hh h2, bnd o l _ _ hl h1, hne2]
  | some o3 =>
    simp only at hm
    cases hi with
    | none => simp at hh
    | some o2 =>
      simp only at hh
      cases lo with
      | none =>
        simp only at hl
        subst hl
        simp [Instr.sliceAt, Instr.slice, Instr.sliceBounds, underlying, hu, hf.ev hx, hz' w, bnd o3 c _ _ hm h3, bnd o2 h _ _ hh h2, Addr.add_none']
      | some o =>
        simp only at hl
        simp [Instr.sliceAt, Instr.slice, Instr.sliceBounds, underlying, hu, hf.ev hx, hz' w, bnd o3 c _ _ hm h3, bnd o2 h _ _ hh h2, bnd o l _ _ hl h1, hne2]
theorem OpVal.ixI {T : Tab} (hT : TabOk P T) {t e ty : TypeId} {x y : Operand} {b off len cap m j : Nat} {kk : IntKind} {i : Int} {ag : Bool}
    (hx : ev? ρ x = some (.slice (some ⟨b, off, none⟩) len cap)) (hy : ev? ρ y = some (.int kk i)) (ht : look? T.sls t = some e) (hz : look? T.tys e = some (ag, m))
    (hi : i = (j : Int)) (hj : j < len) : OpVal P n R cx (.indexAddr t x y) ty ρ L (.pointer (some ⟨b, off + j * m, none⟩)) :=
  OpVal.indexSl hx hy (hT.sls _ (look?_mem ht)) (hT.tys _ (look?_mem hz)).2 hi hj
theorem run_load_ro {w : World} {w0 : World} {S0 : List Nat} (hs : St w0 S0 R L w) {m : Nat} {cs : List Value} {a : Option Addr} {sl cap : Nat} {ro : HL} (h : RoSl m cs a sl ro) (hro : ∀ p ∈ ro, At R L p.1 p.2) {q : Nat} (hq : q ≤ sl) :
    (Builtin.firstCells m q (.slice a sl cap)).run P w = .ok (cs.take (q * m)).toArray w := by
  rcases h.2 with ⟨h0, _⟩ | ⟨b, off, l, e, fr, rfl, rfl, hl, hc⟩
  · subst h0
    have : q = 0 := by omega
    subst this
    cases a <;> simp [Builtin.firstCells, loadCells, loadCellsFrom]
  · have hqm : q * m ≤ sl * m := Nat.mul_le_mul_right _ hq
    have hg := (hro (b, .cells l.toArray e fr) (by simp)).heap hs
    have := run_loadCells_seg (P := P) (m := q * m) (vs := cs.take (q * m)) hg (by rw [seg?_of l off (q * m) (by omega), ← hc, List.take_take, Nat.min_eq_left hqm])
    simpa [Builtin.firstCells] using this
theorem allOne_take {l : List Value} (h : allOne l = true) (q : Nat) : allOne (l.take q) = true := allOne_of fun v hv => allOne_mem h v (List.mem_of_mem_take hv)
theorem copyTo {T : Tab} (hT : TabOk P T) {t t2 e ty : TypeId} {x y : Operand} {b off dLen dCap sLen sCap m q : Nat} {ag : Bool} {cs l : List Value} {a : Option Addr} {ro : HL} {ex : TypeId}
    (ht : look? T.sls t = some e) (hz : look? T.tys e = some (ag, m)) (hx : ev? ρ x = some (.slice (some ⟨b, off, none⟩) dLen dCap)) (hy : ev? ρ y = some (.slice a sLen sCap))
    (hs : RoSl m cs a sLen ro) (hro : ∀ p ∈ ro, At R L p.1 p.2) (hb : (b, .cells l.toArray ex (0, 0)) ∈ L.flatten) (h1 : allOne cs = true) (hq : min sLen dLen = q) (hfit : off + q * m ≤ l.length) :
    Prim P n R cx (.call ⟨.builtin .copy, #[x, y], #[t, t2]⟩) ty ρ L [[(b, .cells l.toArray ex (0, 0))]]
      (fun v L' => v = .int .i64 (q : Int) ∧ L' = [[(b, .cells (l.take off ++ cs.take (q * m) ++ l.drop (off + q * m)).toArray ex (0, 0))]]) := by
  refine ⟨fun oo ac w ho hty hf hst => ?_⟩
  have hu := hT.sls _ (look?_mem ht)
  have hz' := (hT.tys _ (look?_mem hz)).2
  have hg : w.heap[b]? = some (.cells l.toArray ex (0, 0)) := hst.has _ hb
  have hload := run_load_ro (P := P) (cap := sCap) hst hs hro (q := q) (by omega)
  have hcl : (cs.take (q * m)).length = q * m := by
    rw [List.length_take, hs.1]
    exact Nat.min_eq_left (Nat.mul_le_mul_right _ (by omega))
  have hsp := splice?_of l off (cs.take (q * m)) (by rw [hcl]; exact hfit)
  rw [hcl] at hsp
  have hstore := run_storeCells_splice (P := P) hg hsp (allOne_take h1 _)
  refine ⟨_, _, _, ?_, ⟨rfl, rfl⟩, by simpa [ids] using St.row w w.drawn b _ l.toArray ex (0, 0) hg⟩
  unfold execOp; rw [ho]
  have hm' : sLen.min dLen = q := hq
  simp [resolve, invoke, builtin, hf.ev hx, hf.ev hy, Builtin.copy_, run_underlying hu, Builtin.lenOf, hz' w, hm', hload, hstore, goInt]
theorem repL_zero {m : Nat} (zc : List Value) (hm : zc.length = m) (h0 : 0 < m) (len : Nat) : (Builtin.zeroCells zc.toArray len).toList = repL len zc := by
  rw [← repL_eq zc m hm h0 len]
  simp [Builtin.zeroCells, hm, Array.toList_map, Array.toList_range]
theorem clearSl {T : Tab} (hT : TabOk P T) {t e ty : TypeId} {x : Operand} {b off len cap m : Nat} {l zs : List Value} {z : Value} {ex : TypeId}
    (ht : look? T.sls t = some e) (hzz : look? T.zeros e = some z) (hc : cells? z = some zs) (hm : zs.length = m) (h0 : 0 < m) (hx : ev? ρ x = some (.slice (some ⟨b, off, none⟩) len cap))
    (hb : (b, .cells l.toArray ex (0, 0)) ∈ L.flatten) (h1 : allOne (repL len zs) = true) (hl : 0 < len) (hfit : off + len * m ≤ l.length) :
    Prim P n R cx (.call ⟨.builtin .clear, #[x], #[t]⟩) ty ρ L [[(b, .cells l.toArray ex (0, 0))]]
      (fun v L' => L' = [[(b, .cells (l.take off ++ repL len zs ++ l.drop (off + len * m)).toArray ex (0, 0))]]) := by
  refine ⟨fun oo ac w ho hty hf hst => ?_⟩
  have hu := hT.sls _ (look?_mem ht)
  have hz' := hT.zeros _ (look?_mem hzz)
  have hg : w.heap[b]? = some (.cells l.toArray ex (0, 0)) := hst.has _ hb
  have hrl : (repL len zs).length = len * m := by rw [repL_len, hm]
  have hsp := splice?_of l off (repL len zs) (by rw [hrl]; exact hfit)
  rw [hrl] at hsp
  have hstore := run_storeCells_splice (P := P) hg hsp h1
  have hzc : (Builtin.zeroCells z.cells len).toList = repL len zs := by rw [cells?_eq hc]; exact repL_zero zs hm h0 len
  refine ⟨.tuple #[], _, _, ?_, rfl, by simpa [ids] using St.row w w.drawn b _ l.toArray ex (0, 0) hg⟩
  unfold execOp; rw [ho]
  obtain ⟨len, rfl⟩ : ∃ j, len = j + 1 := ⟨len - 1, by omega⟩
  simp [resolve, invoke, builtin, hf.ev hx, Builtin.clear_, run_underlying hu, hz' w, hzc, hstore]
section
variable {α : Type}
theorem mget_mput (m : List (Int × α)) (x y : Int) (v : α) : mget (mput m x v) y = if x = y then some v else mget m y := by
  induction m with
  | nil => simp [mput, mget]
  | cons p r ih =>
    obtain ⟨a, u⟩ := p
    simp only [mput]
    split
    · rename_i h; subst h; simp only [mget]; split <;> rfl
    · rename_i h
      simp only [mget, ih]
      split
      · rename_i h2; subst h2; rw [if_neg (fun h3 => h h3.symm)]
      · rfl
theorem mget_none {m : List (Int × α)} {x : Int} (h : x ∉ m.map (·.1)) : mget m x = none := by
  induction m with
  | nil => rfl
  | cons p r ih =>
    obtain ⟨a, u⟩ := p
    simp only [List.map_cons, List.mem_cons, not_or] at h
    simp only [mget]
    rw [if_neg (fun h2 => h.1 h2.symm)]
    exact ih h.2
theorem mget_mdel {m : List (Int × α)} (hn : (m.map (·.1)).Nodup) (x y : Int) : mget (mdel m x) y = if x = y then none else mget m y := by
  induction m with
  | nil => simp [mdel, mget]
  | cons p r ih =>
    obtain ⟨a, u⟩ := p
    simp only [List.map_cons, List.nodup_cons] at hn
    simp only [mdel]
    split
    · rename_i h; subst h
      split
      · rename_i h2; subst h2; exact mget_none hn.1
      · rename_i h2; simp only [mget]; rw [if_neg h2]
    · rename_i h
      simp only [mget, ih hn.2]
      split
      · rename_i h2; subst h2; rw [if_neg (fun h3 => h h3.symm)]
      · rfl
theorem mput_keys (m : List (Int × α)) (x : Int) (v : α) : ∀ k ∈ (mput m x v).map (·.1), k = x ∨ k ∈ m.map (·.1) := by
  induction m with
  | nil => intro k hk; simp [mput] at hk; exact .inl hk
  | cons p r ih =>
    obtain ⟨a, u⟩ := p
    intro k hk
    simp only [mput] at hk
    split at hk
    · simp only [List.map_cons, List.mem_cons] at hk ⊢
      rcases hk with h | h
      · exact .inl h
      · exact .inr (.inr h)
    · simp only [List.map_cons, List.mem_cons] at hk ⊢
      rcases hk with h | h
      · exact .inr (.inl h)
      · rcases ih k h with h | h
        · exact .inl h
        · exact .inr (.inr h)
theorem mput_nd {m : List (Int × α)} (hn : (m.map (·.1)).Nodup) (x : Int) (v : α) : ((mput m x v).map (·.1)).Nodup := by
  induction m with
  | nil => simp [mput]
  | cons p r ih =>
    obtain ⟨a, u⟩ := p
    simp only [List.map_cons, List.nodup_cons] at hn
    simp only [mput]
    split
    · rename_i h; subst h; simpa using hn
    · rename_i h
      simp only [List.map_cons, List.nodup_cons]
      refine ⟨fun hk => ?_, ih hn.2⟩
      rcases mput_keys r x v a hk with h2 | h2
      · exact h h2
      · exact hn.1 h2
theorem mdel_sub (m : List (Int × α)) (x : Int) : ∀ k ∈ (mdel m x).map (·.1), k ∈ m.map (·.1) := by
  induction m with
  | nil => simp [mdel]
  | cons p r ih =>
    obtain ⟨a, u⟩ := p
    intro k hk
    simp only [mdel] at hk
    split at hk
    · simp only [List.map_cons, List.mem_cons]; exact .inr hk
    · simp only [List.map_cons, List.mem_cons] at hk ⊢
      rcases hk with h | h
      · exact .inl h
      · exact .inr (ih k h)
theorem mdel_nd {m : List (Int × α)} (hn : (m.map (·.1)).Nodup) (x : Int) : ((mdel m x).map (·.1)).Nodup := by
  induction m with
  | nil => simp [mdel]
  | cons p r ih =>
    obtain ⟨a, u⟩ := p
    simp only [List.map_cons, List.nodup_cons] at hn
    simp only [mdel]
    split
    · exact hn.2
    · simp only [List.map_cons, List.nodup_cons]
      exact ⟨fun hk => hn.1 (mdel_sub r x a hk), ih hn.2⟩
end
def ints (xs : List Int) : List Value := xs.flatMap fun x => [.int .i64 x]
theorem ints_len (xs : List Int) : (ints xs).length = xs.length := by
  unfold ints
  exact flatMap_len (fun x => [Value.int .i64 x]) 1 (fun _ => rfl) xs |>.trans (by omega)
theorem int_at {l : List Value} {off : Nat} {xs : List Int} (hl : off + xs.length * 1 ≤ l.length) (h : (l.drop off).take (xs.length * 1) = ints xs) {i : Nat} (hi : i < xs.length) :
    l[off + i * 1]? = some (.int .i64 xs[i]) := by
  have h1 := RoSl.elem (f := fun x => [Value.int .i64 x]) (m := 1) (fun _ => rfl) hl h hi
  obtain ⟨h2, h3⟩ := seg?_eq _ _ _ h1
  have h4 := congrArg (fun l => l[0]?) h3
  simp only [List.getElem?_cons_zero] at h4
  rw [List.getElem?_take, if_pos (by decide), List.getElem?_drop] at h4
  simpa using h4.symm
def i64s (a : Int) : Prop := -9223372036854775808 ≤ a ∧ a ≤ 9223372036854775807
theorem wrap_in {a : Int} (h : i64s a) : IntKind.i64.wrap a = a := by rw [IntKind.wrap_i64]; unfold i64s at h; omega
def bstr (l : List Int) : ByteArray := ⟨(l.map fun n => UInt8.ofNat n.toNat).toArray⟩
def u8ok (l : List Int) : Prop := ∀ x ∈ l, 0 ≤ x ∧ x < 256
theorem bstr_toList (l : List Int) : (bstr l).toList = l.map fun n => UInt8.ofNat n.toNat := by unfold bstr; rw [ByteArray.toList_mk]
theorem bstr_size (l : List Int) : (bstr l).size = l.length := by simp [bstr, ByteArray.size]
theorem bstr_eq {a b : List Int} (ha : u8ok a) (hb : u8ok b) : ((bstr a).toList == (bstr b).toList) = decide (a = b) := by
  rw [bstr_toList, bstr_toList]
  have : (a.map fun n => UInt8.ofNat n.toNat) = (b.map fun n => UInt8.ofNat n.toNat) ↔ a = b := by
    constructor
    · intro h
      induction a generalizing b with
      | nil => cases b <;> simp_all
      | cons x a ih =>
        cases b with
        | nil => simp at h
        | cons y b =>
          simp only [List.map_cons, List.cons.injEq] at h
          have hx := ha x (by simp)
          have hy := hb y (by simp)
          have hxy : x = y := by
            have h1 := congrArg UInt8.toNat h.1
            simp only [UInt8.toNat_ofNat'] at h1
            omega
          rw [hxy, ih (fun z hz => ha z (by simp [hz])) (fun z hz => hb z (by simp [hz])) h.2]
    · rintro rfl; rfl
  by_cases h : a = b
  · subst h; simp
  · rw [decide_eq_false h]
    exact beq_eq_false_iff_ne.2 fun h3 => h (this.1 h3)
theorem foldl_push (ns : List Int) : ∀ s : ByteArray, ns.foldl (fun r n => r.push (UInt8.ofNat n.toNat)) s = ⟨s.data ++ (ns.map fun n => UInt8.ofNat n.toNat).toArray⟩ := by
  induction ns with
  | nil => intro s; simp
  | cons a ns ih =>
    intro s
    rw [List.foldl_cons, ih]
    simp [ByteArray.push]
def u8s (bs : List Int) : List Value := bs.flatMap fun x => [.int .u8 x]
theorem u8s_map (bs : List Int) : u8s bs = bs.map (.int .u8) := by
  unfold u8s
  induction bs with
  | nil => rfl
  | cons b bs ih => simp [ih]
theorem u8s_len (bs : List Int) : (u8s bs).length = bs.length := by simp [u8s_map]
theorem u8s_one (bs : List Int) : allOne (u8s bs) = true := by
  rw [u8s_map]
  induction bs with
  | nil => rfl
  | cons b bs ih => exact ih
theorem u8s_inj {a b : List Int} (h : u8s a = u8s b) : a = b := by
  rw [u8s_map, u8s_map] at h
  induction a generalizing b with
  | nil => cases b <;> simp_all
  | cons x a ih =>
    cases b with
    | nil => simp at h
    | cons y b =>
      simp only [List.map_cons, List.cons.injEq, Value.int.injEq, true_and] at h
      rw [h.1, ih h.2]
theorem u8s_take (bs : List Int) (q : Nat) : (u8s bs).take q = u8s (bs.take q) := by rw [u8s_map, u8s_map, List.map_take]
theorem u8s_drop (bs : List Int) (q : Nat) : (u8s bs).drop q = u8s (bs.drop q) := by rw [u8s_map, u8s_map, List.map_drop]
theorem u8s_append (a b : List Int) : u8s (a ++ b) = u8s a ++ u8s b := by simp [u8s]
theorem OpVal.bytesStr {T : Tab} (hT : TabOk P T) {s t e ty : TypeId} {x : Operand} {a : Option Addr} {len cap : Nat} {bs : List Int} {ro : HL}
    (hx : ev? ρ x = some (.slice a len cap)) (hs : look? T.sls s = some e) (he : look? T.ints e = some .u8) (ht : hasNat T.strs t = true)
    (h : RoSl 1 (u8s bs) a len ro) (hro : ∀ p ∈ ro, At R L p.1 p.2) : OpVal P n R cx (.convert s t x) ty ρ L (.string (bstr bs)) := by
  refine ⟨fun oo ac w ho hty hf hst => ?_⟩
  have h1 := hT.sls _ (look?_mem hs)
  have h2 := hT.ints _ (look?_mem he)
  have h3 := hT.strs _ (hasNat_mem ht)
  have hlen : bs.length = len := by have := h.1; rw [u8s_len] at this; omega
  have key : (Conv.bytesToString (.slice a len cap)).run P w = .ok (.string (bstr bs)) w := by
    rcases h.2 with ⟨h0, _⟩ | ⟨b, off, l, e', fr, rfl, rfl, hl, hc⟩
    · subst h0
      have : bs = [] := List.eq_nil_of_length_eq_zero hlen
      subst this
      cases a with
      | none => rfl
      | some a =>
        have := run_bytesToString (P := P) w a 0 cap [] (by simp [loadCells, loadCellsFrom])
        rw [this]
        rfl
    · have hg := (hro (b, .cells l.toArray e' fr) (by simp)).heap hst
      have hld := run_loadCells_seg (P := P) (m := len) (vs := bs.map (.int .u8)) hg (by rw [seg?_of l off len (by omega), ← u8s_map, ← hc, Nat.mul_one])
      rw [run_bytesToString (P := P) w _ len cap bs hld, foldl_push]
      simp [bstr]
  unfold execOp; rw [ho]
  simp only [hf.ev hx]
  rw [Sem.run_bind, run_convert_bytes_string w s t e a len cap h1 h2 h3, key]
  rfl
theorem bstr_cells (bs : List Int) (h : u8ok bs) : ((bstr bs).data.map fun b => Value.int .u8 b.toNat).toList = u8s bs := by
  rw [u8s_map]
  simp only [bstr, Array.toList_map, List.map_map]
  refine List.map_congr_left fun x hx => ?_
  have := h x hx
  simp only [Function.comp, UInt8.toNat_ofNat', Value.int.injEq, true_and]
  omega
theorem St.frz (w : World) (i : Nat) (S : List Nat) (cs : Array Value) (e : TypeId) : ∃ fr, St w S [] [[(w.heap.size, .cells cs e fr)]] (({ w with drawn := i }.alloc (.cells cs e (0, 0))).freeze ⟨w.heap.size, cs.size, none⟩ 1) := by
  refine ⟨(cs.size, cs.size + 1), ?_, by simp [ids], ?_, ?_, ?_, fun _ h => (by cases h), ⟨rfl, rfl, rfl⟩⟩
  · intro p hp
    simp at hp
    subst hp
    simp only [World.freeze, World.alloc]
    rw [if_neg (by decide)]
    simp only [Array.getElem?_modify, if_true, Array.getElem?_push_size, Option.map_some]
    rfl
  · intro b hb _
    simp only [World.freeze, World.alloc]
    rw [if_neg (by decide)]
    simp only [Array.getElem?_modify]
    rw [if_neg (by omega), Array.getElem?_push_lt hb, Array.getElem?_eq_getElem hb]
  · intro b hb
    simp [ids] at hb
    subst hb
    exact .inr (Nat.le_refl _)
  · simp [World.freeze, World.alloc]
def bcells (bs : List Int) (cap : Nat) : Array Value := ((bstr bs).data.map fun b : UInt8 => Value.int .u8 b.toNat) ++ Array.replicate (cap - bs.length) (Value.int .u8 0)
theorem strBytes {T : Tab} (hT : TabOk P T) {s t e ty : TypeId} {x : Operand} {bs : List Int}
    (hx : ev? ρ x = some (.string (bstr bs))) (hs : hasNat T.strs s = true) (ht : look? T.sls t = some e) (he : look? T.ints e = some .u8) (hu : u8ok bs) :
    Prim P n R cx (.convert s t x) ty ρ L [] (fun v L' => ∃ a cap H, v = .slice a bs.length cap ∧ L' = [H] ∧ RoSl 1 (u8s bs) a bs.length H ∧ bs.length ≤ cap) := by
  refine ⟨fun oo ac w ho hty hf hst => ?_⟩
  have h1 := hT.strs _ (hasNat_mem hs)
  have h2 := hT.ints _ (look?_mem he)
  have h3 := hT.sls _ (look?_mem ht)
  have hge := grownCap_ge w bs.length 0 e
  obtain ⟨fr, hfr⟩ := St.frz w (w.drawn + 1) [] (bcells bs (grownCap w bs.length 0 e)) e
  refine ⟨.slice (some ⟨w.heap.size, 0, none⟩) bs.length (grownCap w bs.length 0 e), _, _, ?_, ⟨_, _, _, rfl, rfl, ?_, hge⟩, by simpa [ids] using hfr⟩
  · have key : (convert s t (.string (bstr bs))).run P w = .ok (.slice (some ⟨w.heap.size, 0, none⟩) bs.length (grownCap w bs.length 0 e))
        (({ w with drawn := w.drawn + 1 }.alloc (.cells (bcells bs (grownCap w bs.length 0 e)) e (0, 0))).freeze ⟨w.heap.size, (bcells bs (grownCap w bs.length 0 e)).size, none⟩ 1) := by
      simp only [convert, Sem.run_bind, run_underlying h1, run_underlying h2, run_underlying h3, Result.andThen_ok, Conv.stringToBytes, bstr_size]
      rw [run_choose, if_neg (by simp [Question.forced])]
      simp only [Result.andThen_ok, newRow, markStringish, Sem.run_bind, run_newObj, Sem.run_pure]
      have hsh : (({ w with drawn := w.drawn + 1 } : World).alloc (.cells (bcells bs (grownCap w bs.length 0 e)) e (0, 0))).shape? w.heap.size = some (e, (bcells bs (grownCap w bs.length 0 e)).size) := by
        simp [World.shape?, World.alloc]
      have hc : (Question.appendCap bs.length 0 e).cut (w.tape w.drawn (.appendCap bs.length 0 e)) = grownCap w bs.length 0 e := rfl
      rw [hc]
      change (Result.andThen (Result.andThen (Sem.run P (shape w.heap.size) (({ w with drawn := w.drawn + 1 } : World).alloc (.cells (bcells bs (grownCap w bs.length 0 e)) e (0, 0)))) _) _) = _
      rw [run_shape, hsh]
      rfl
    unfold execOp; rw [ho]
    simp only [hf.ev hx]
    rw [Sem.run_bind, key]
    rfl
  · refine ⟨by rw [u8s_len, Nat.mul_one], .inr ⟨w.heap.size, 0, (bcells bs (grownCap w bs.length 0 e)).toList, e, fr, rfl, by rw [Array.toArray_toList], ?_, ?_⟩⟩
    · unfold bcells; rw [Array.toList_append, bstr_cells bs hu]; simp [u8s_len]
    · unfold bcells; rw [Array.toList_append, bstr_cells bs hu, List.drop_zero]
      rw [List.take_append_of_le_length (by rw [u8s_len]; omega), List.take_of_length_le (by rw [u8s_len]; omega)]
structure SlD (X : Type) where
  a : Option Addr
  cap : Nat
  xs : List X
  ro : HL
theorem seg?_get {l vs : List Value} {o m : Nat} (h : seg? l o m = some vs) {k : Nat} (hk : k < m) : l[o + k]? = vs[k]? := by
  obtain ⟨h1, h2⟩ := seg?_eq l o m h
  rw [h2, List.getElem?_take, if_pos hk, List.getElem?_drop]
theorem RoSl.at {α : Type} {f : α → List Value} {m : Nat} (hf : ∀ x, (f x).length = m) {xs : List α} {a : Option Addr} {ro : HL} (h : RoSl m (xs.flatMap f) a xs.length ro) {i : Nat} (hi : i < xs.length) :
    ∃ b off l e fr, a = some ⟨b, off, none⟩ ∧ ro = [(b, .cells (List.toArray l) e fr)] ∧ seg? l (off + i * m) m = some (f xs[i]) ∧ ∀ k < m, l[off + i * m + k]? = (f xs[i])[k]? := by
  rcases h.2 with ⟨h0, _⟩ | ⟨b, off, l, e, fr, h1, h2, h3, h4⟩
  · omega
  · have := RoSl.elem hf h3 h4 hi
    exact ⟨b, off, l, e, fr, h1, h2, this, fun k hk => seg?_get this hk⟩
theorem app0 {e m bytes : Nat} (hi : InfOk P e m bytes) {t ty : TypeId} {s x : Operand} {cs : List Value} {a ax : Option Addr} {len cap cx0 : Nat} {H : HL}
    (ht : P.underlying t = some (.slice e)) (hs : ev? ρ s = some (.slice a len cap)) (ho : Own m e cs a len cap H)
    (hH : ∀ p ∈ H, p ∈ L.flatten) (hx : ev? ρ x = some (.slice ax 0 cx0)) :
    Prim P n R cx (.call ⟨.builtin .append, #[s, x], #[t, t]⟩) ty ρ L [H] (fun v L' => v = .slice a len cap ∧ L' = [H]) := by
  obtain ⟨i, z, hi1, hi2, rfl, rfl, hi5, hi6⟩ := hi
  refine ⟨fun oo ac w hoo hty hf hst => ?_⟩
  refine ⟨_, _, w, ?_, ⟨rfl, rfl⟩, ?_⟩
  · unfold execOp
    rw [hoo]
    have hlc : len ≤ cap := by
      rcases ho.2 with ⟨_, h1, h2, _⟩ | ⟨_, _, _, _, h1, _⟩ <;> omega
    rcases ho.2 with ⟨rfl, rfl, rfl, rfl⟩ | ⟨b, l, rfl, rfl, _, hll, htake⟩
    · cases ax <;> simp [resolve, invoke, builtin, hf.ev hs, hf.ev hx, Builtin.append_, run_underlying ht, sizeOf, typeInfo, hi1, Builtin.lenOf, Builtin.firstCells, loadCells, loadCellsFrom]
    · cases ax <;> simp [resolve, invoke, builtin, hf.ev hs, hf.ev hx, Builtin.append_, run_underlying ht, sizeOf, typeInfo, hi1, Builtin.lenOf, Builtin.firstCells, hlc, storeCells, loadCells, loadCellsFrom]
  · have hmem : ∀ p ∈ [H].flatten, p ∈ L.flatten := by simpa using hH
    refine ⟨fun p hp => hst.has p (hmem p hp), ?_, fun _ _ _ => rfl, fun b hb => .inl hb, Nat.le_refl _, fun _ h => (by cases h), ⟨rfl, rfl, rfl⟩⟩
    rcases ho.2 with ⟨_, _, _, rfl⟩ | ⟨b, l, _, rfl, _⟩ <;> simp [ids]
theorem Prim.post {op : Op} {ty : TypeId} {pre : List HL} {post post' : Value → List HL → Prop} (h : Prim P n R cx op ty ρ L pre post) (hp : ∀ v L', post v L' → post' v L') : Prim P n R cx op ty ρ L pre post' :=
  ⟨fun oo a w h1 h2 hf hs => by obtain ⟨v, L', w', e1, e2, e3⟩ := h.go oo a w h1 h2 hf hs; exact ⟨v, L', w', e1, hp v L' e2, e3⟩⟩
theorem appRo {T : Tab} (hT : TabOk P T) {t e m bytes ty : Nat} {s x : Operand} {cs news : List Value} {a ax : Option Addr} {len cap nx cxx : Nat} {H ro : HL}
    (ht : look? T.sls t = some e) (hi : look? T.infs e = some (m, bytes)) (hs : ev? ρ s = some (.slice a len cap)) (ho : Own m e cs a len cap H) (hH : ∀ p ∈ H, p ∈ L.flatten)
    (hx : ev? ρ x = some (.slice ax nx cxx)) (hr : RoSl m news ax nx ro) (hro : ∀ p ∈ ro, At R L p.1 p.2) (h1 : allOne news = true) (hbig : (len + nx) * bytes ≤ 140737488355328) (hbig2 : len + nx ≤ 140737488355328) :
    Prim P n R cx (.call ⟨.builtin .append, #[s, x], #[t, t]⟩) ty ρ L [H] (fun v L' => ∃ a' cap' H', v = .slice a' (len + nx) cap' ∧ L' = [H'] ∧ Own m e (cs ++ news) a' (len + nx) cap' H') := by
  have hi' := hT.infs _ (look?_mem hi)
  have ht' := hT.sls _ (look?_mem ht)
  rcases hr.2 with ⟨h0, _⟩ | ⟨b, off, l, e', fr, rfl, rfl, hl, hc⟩
  · subst h0
    have hn : news = [] := List.eq_nil_of_length_eq_zero (by simpa using hr.1)
    subst hn
    exact (app0 hi' ht' hs ho hH hx).post fun v L' ⟨e1, e2⟩ => ⟨a, cap, H, e1, e2, by rw [List.append_nil, Nat.add_zero]; exact ho⟩
  · exact append_some hi' ht' hs ho hH hx (hro (b, .cells l.toArray e' fr) (by simp)) (by rw [seg?_of l off (nx * m) hl, hc]) h1 hbig hbig2
def order : List Nat → List HL → Option (List HL × List HL)
  | [], L => some ([], L)
  | i :: is, L => match remove? i L with
    | some (d, M) => match order is M with
      | some (r, X) => some (d :: r, X)
      | none => none
    | none => none
theorem order_perm : ∀ {is : List Nat} {L M X : List HL}, order is L = some (M, X) → L.flatten.Perm (M.flatten ++ X.flatten)
  | [], L, M, X, h => by simp only [order, Option.some.injEq, Prod.mk.injEq] at h; obtain ⟨rfl, rfl⟩ := h; simp
  | i :: is, L, M, X, h => by
    simp only [order] at h
    split at h
    · rename_i d M1 h1
      split at h
      · rename_i r X1 h2
        simp only [Option.some.injEq, Prod.mk.injEq] at h
        obtain ⟨rfl, rfl⟩ := h
        refine (remove?_perm h1).trans ?_
        simp only [List.flatten_cons, List.append_assoc]
        exact List.Perm.append_left d (order_perm h2)
      · cases h
    · cases h
theorem W.order (is : List Nat) {M X : List HL} (h : Sl.order is L = some (M, X)) (hk : W P n R cx k ρ M) : W P n R cx k ρ L :=
  ⟨fun a w hf hs => hk.go a w hf (hs.perm (order_perm h))⟩
theorem W.dropNil (hk : W P n R cx k ρ L) : W P n R cx k ρ ([] :: L) := W.regroup (by simp) hk
theorem W.split3 {A B C : HL} {M : List HL} (h : L = (A ++ (B ++ C)) :: M) (hk : W P n R cx k ρ (A :: B :: C :: M)) : W P n R cx k ρ L := by
  subst h
  exact W.regroup (by simp) hk
theorem Sel.front : ∀ (A B : List HL), Sel (A ++ B) A B
  | [], _ => .nil
  | _ :: A, B => .cons .here (Sel.front A B)
theorem Ctr.frame {f : FuncId} {args : List Value} {pre : List HL} {ro : HL} {post : Value → List HL → Prop} (h : Ctr P f args pre ro post) (X : List HL) :
    Ctr P f args (pre ++ X) ro (fun v L' => ∃ L1, L' = L1 ++ X ∧ post v L1) := by
  refine ⟨h.callable, fun w hhas hnd hro => ?_⟩
  have hst : St w (ids (pre ++ X).flatten) ro (pre ++ X) w := ⟨hhas, hnd, fun _ _ _ => rfl, fun b hb => .inl hb, Nat.le_refl _, hro, ⟨rfl, rfl, rfl⟩⟩
  refine (h.use hst (Sel.front pre X) RoIn.same).mono ?_
  rintro e w' ⟨v, L', he, hp, hs⟩
  exact ⟨v, L' ++ X, he, ⟨L', rfl, hp⟩, hs⟩
theorem Ctr.post {f : FuncId} {args : List Value} {pre : List HL} {ro : HL} {post post' : Value → List HL → Prop} (h : Ctr P f args pre ro post) (hp : ∀ v L', post v L' → post' v L') : Ctr P f args pre ro post' := by
  refine ⟨h.callable, fun w hhas hnd hro => (h.go w hhas hnd hro).mono ?_⟩
  rintro e w' ⟨v, L', he, hq, hs⟩
  exact ⟨v, L', he, hp v L' hq, hs⟩
structure CtrV (P : Program) (fv : Value) (args : List Value) (pre : List HL) (ro : HL) (post : Value → List HL → Prop) : Prop where
  go : ∃ f args', (∀ w, (do let d ← Deferred.ofValue fv args.toArray; invoke d.target d.args : Sem Next).run P w = .ok (.enter f args'.toArray) w) ∧ Ctr P f args' pre ro post
theorem Ctr.v {f : FuncId} {fst args cap all : List Value} {pre : List HL} {ro : HL} {post : Value → List HL → Prop} (h : Ctr P f all pre ro post) (ha : fst ++ args ++ cap = all) :
    CtrV P (.func (.func f) fst.toArray cap.toArray) args pre ro post := by
  refine ⟨f, all, fun w => ?_, h⟩
  subst ha
  simp [Deferred.ofValue, invoke]
  simpa using h.callable (fst ++ args ++ cap).toArray w
theorem Ctr.m {f : FuncId} {t : TypeId} {name : String} {args all : List Value} {pre : List HL} {ro : HL} {post : Value → List HL → Prop} (h : Ctr P f all pre ro post)
    (ha : ∀ w, (do let d ← Deferred.ofValue (.func (.methodOf t name) #[] #[]) args.toArray; invoke d.target d.args : Sem Next).run P w = .ok (.enter f all.toArray) w) :
    CtrV P (.func (.methodOf t name) #[] #[]) args pre ro post := ⟨f, all, ha, h⟩
theorem W.callV {all : Array Oper} {d : Nat} {c : Call} {ty : TypeId} {pos : String} {af : Array Edge} {l : List Oper} {fo : Operand} {xs : Array Operand} {tys : Array TypeId}
    {fv : Value} {vs : List Value} {pre rest : List HL} {ro : HL} {post : Value → List HL → Prop}
    (hc : c = ⟨.value fo, xs, tys⟩) (hfo : ev? ρ fo = some fv) (hxs : evs? ρ xs.toList = some vs)
    (hsp : CtrV P fv vs pre ro post) (hsel : Sel L pre rest) (hro : RoIn R rest ro) (hd : d < n)
    (hk : ∀ v L', post v L' → W P n R cx (.ops all l :: k) ((d, v) :: ρ) (L' ++ rest)) :
    W P n R cx (.ops all (⟨some d, .call c, ty, pos, af, none⟩ :: l) :: k) ρ L := by
  refine ⟨fun a w hf hs => ?_⟩
  have hxs' := hf.evs hxs
  have hx : xs.map a.eval = vs.toArray := by cases xs; simp at hxs'; simp [hxs']
  simp only [mean, wpList, Region.wanted, if_true]
  refine .inl ?_
  obtain ⟨f, args', hrun, hctr⟩ := hsp.go
  unfold Oper.wp execOp
  subst hc
  have hr : (do let d ← resolve a.eval ⟨.value fo, xs, tys⟩ ty; invoke d.target d.args : Sem Next).run P w = .ok (.enter f args'.toArray) w := by
    simp only [resolve, hf.ev hfo, hx]
    exact hrun w
  simp only [hr]
  simp only [Oper.upon]
  refine (hctr.use hs hsel hro).mono ?_
  rintro e w' ⟨v, L', rfl, hpost, hst⟩
  exact (hk v L' hpost).go _ _ (hf.put hd v) hst
end
end Go.Sl
namespace Go.Proofs.YtfajcpnbhnddbaaGreat
open Go Go.Sl
set_option linter.unusedVariables false
theorem lb {m n : Nat} (h : Nat.ble m n = true) : m ≤ n := Nat.le_of_ble_eq_true h
theorem dt {p : Prop} [Decidable p] (h : p) : decide p = true := decide_eq_true h
theorem df {p : Prop} [Decidable p] (h : ¬ p) : decide p = false := decide_eq_false h
theorem oh {R : HL} {L : List HL} {b : Nat} {o : Obj} : At R ([(b, o)] :: L) b o := at_own 0 rfl
theorem ot {R : HL} {c : HL} {L : List HL} {b : Nat} {o : Obj} (h : At R L b o) : At R (c :: L) b o := h.imp (fun h => List.mem_append.2 (.inr h)) id
theorem rh {R : HL} {L : List HL} {b : Nat} {o : Obj} : At ((b, o) :: R) L b o := at_ro 0 rfl
theorem rt {R : HL} {q : Nat × Obj} {L : List HL} {b : Nat} {o : Obj} (h : At R L b o) : At (q :: R) L b o := h.imp id (List.mem_cons_of_mem _)
theorem rhF {R : HL} {M L : List HL} {b : Nat} {o : Obj} : At (([(b, o)] :: M).flatten ++ R) L b o := .inr (by simp)
theorem raF {c R : HL} {M L : List HL} {b : Nat} {o : Obj} (h : At (M.flatten ++ R) L b o) : At ((c :: M).flatten ++ R) L b o := h.imp id (fun h => by simp only [List.flatten_cons, List.append_assoc]; exact List.mem_append_right _ h)
theorem roH {R : HL} {c : HL} {L : List HL} : RoIn R (c :: L) c := RoIn.own 0 rfl
theorem roT {R : HL} {c : HL} {L : List HL} {ro : HL} (h : RoIn R L ro) : RoIn R (c :: L) ro := fun p hp => (h p hp).imp (fun h => List.mem_append.2 (.inr h)) id
section
variable {n : Nat} {R : HL} {cx : Cx} {k : List Kont} {ρ ρ' : Env} {L L' : List HL} {s s' : List Kont} {all : Array Oper} {d : Nat} {od : Option Nat} {op : Op} {ty t t' : TypeId} {x y c : Operand} {pos : String} {af : Array Edge} {l : List Oper} {v : Value}
  {b off m j sl : Nat} {fr : Nat × Nat} {lv cl' vs : List Value} {e : TypeId} {ag want bb : Bool} {ca cb : Code} {pre rest : List HL} {ro : HL} {post : Value → List HL → Prop}
theorem aG (h : W Tryz.prog n R cx s' ρ' L') (h1 : Sl.drive tab n 3000 s ρ = some (s', ρ') := by exact rfl) (h2 : norm? L = some L' := by exact rfl) : W Tryz.prog n R cx s ρ L := W.step tab_ok h1 h2 h
theorem aV (o : OpVal Tryz.prog n R cx op ty ρ L v) (h : W Tryz.prog n R cx s' ρ' L') (hd : d < n := by exact lb rfl)
    (h1 : Sl.drive tab n 3000 (.ops all l :: k) ((d, v) :: ρ) = some (s', ρ') := by exact rfl) (h2 : norm? L = some L' := by exact rfl) : W Tryz.prog n R cx (.ops all (⟨some d, op, ty, pos, af, none⟩ :: l) :: k) ρ L :=
  W.val o hd (W.step tab_ok h1 h2 h)
theorem aL (h : W Tryz.prog n R cx s' ρ' L') (hx : ev? ρ x = some (.pointer (some ⟨b, off, none⟩)) := by exact rfl) (hb : At R L b (.cells lv.toArray e fr) := by repeat (first | exact oh | exact rh | exact rhF | apply ot | apply raF | apply rt))
    (hv : ldv? tab t lv off = some v := by exact rfl) (hd : d < n := by exact lb rfl)
    (h1 : Sl.drive tab n 3000 (.ops all l :: k) ((d, v) :: ρ) = some (s', ρ') := by exact rfl) (h2 : norm? L = some L' := by exact rfl) : W Tryz.prog n R cx (.ops all (⟨some d, .load t x, ty, pos, af, none⟩ :: l) :: k) ρ L :=
  W.val (OpVal.load tab_ok hx hb hv) hd (W.step tab_ok h1 h2 h)
theorem aS {L2 : List HL} (h : W Tryz.prog n R cx s' ρ' L') (hx : ev? ρ x = some (.pointer (some ⟨b, off, none⟩)) := by exact rfl)
    (hu : Upd b (.cells lv.toArray e (0, 0)) (.cells cl'.toArray e (0, 0)) L L2 := by repeat (first | exact Upd.here | apply Upd.there))
    (hy : ev? ρ y = some v := by exact rfl) (hc : cells? v = some vs := by exact rfl) (hz : look? tab.tys t = some (ag, m) := by exact rfl) (hl : vs.length = m := by exact rfl) (ho : allOne vs = true := by exact rfl)
    (hv : splice? lv off vs = some cl' := by exact rfl)
    (h1 : Sl.drive tab n 3000 (.ops all l :: k) ρ = some (s', ρ') := by exact rfl) (h2 : norm? L2 = some L' := by exact rfl) : W Tryz.prog n R cx (.ops all (⟨none, .store t x y, ty, pos, af, none⟩ :: l) :: k) ρ L :=
  W.store tab_ok hx hu hy hc hz hl ho hv (W.step tab_ok h1 h2 h)
theorem aN {z : Value} (h : ∀ b, W Tryz.prog n R cx (.ops all l :: k) ((d, .pointer (some ⟨b, 0, none⟩)) :: ρ) ([(b, .cells vs.toArray t (0, 0))] :: L)) (hz : look? tab.zeros t = some z := by exact rfl) (hc : cells? z = some vs := by exact rfl) (hd : d < n := by exact lb rfl) :
    W Tryz.prog n R cx (.ops all (⟨some d, .alloc t, ty, pos, af, none⟩ :: l) :: k) ρ L := W.new tab_ok hz hc hd h
theorem aB {z : Value} (h : ∀ b, W Tryz.prog n R cx (.ops all l :: k) ((d, .pointer (some ⟨b, 0, none⟩)) :: ρ) ([(b, .cells vs.toArray t (0, 0))] :: L)) (hz : ev? ρ x = some z := by exact rfl) (hc : cells? z = some vs := by exact rfl) (hd : d < n := by exact lb rfl) :
    W Tryz.prog n R cx (.ops all (⟨some d, .box t x, ty, pos, af, none⟩ :: l) :: k) ρ L := W.box hz hc hd h
theorem aW {o : Obj} {f : Nat → Value} (o1 : NewOf Tryz.prog n R cx op ty ρ L o f) (h : ∀ b, W Tryz.prog n R cx (.ops all l :: k) ((d, f b) :: ρ) ([(b, o)] :: L)) (hd : d < n := by exact lb rfl) :
    W Tryz.prog n R cx (.ops all (⟨some d, op, ty, pos, af, none⟩ :: l) :: k) ρ L := W.nw o1 hd h
theorem aGo (h : W Tryz.prog n R cx s' ρ' L') (hj : (all[j]?).bind (·.dst) = some sl := by exact rfl) (hb : ρ.get? sl = some (.bool bb) := by exact rfl)
    (hw : bb = want := by first | rfl | exact dt ‹_› | exact df ‹_› | exact ndT ‹_› | exact ndF ‹_› | (simp; done) | exact dt (by omega) | exact df (by omega) | exact ndT (by omega) | exact ndF (by omega) | omega) (h1 : Sl.drive tab n 3000 (.ops all (⟨od, op, ty, pos, af, none⟩ :: l) :: k) ρ = some (s', ρ') := by exact rfl) (h2 : norm? L = some L' := by exact rfl) :
    W Tryz.prog n R cx (.ops all (⟨od, op, ty, pos, af, some (j, want)⟩ :: l) :: k) ρ L := W.guardGo hj hb hw (W.step tab_ok h1 h2 h)
theorem aSk (h : W Tryz.prog n R cx s' ρ' L') (hj : (all[j]?).bind (·.dst) = some sl := by exact rfl) (hb : ρ.get? sl = some (.bool bb) := by exact rfl) (hw : bb = !want := by first | rfl | exact dt ‹_› | exact df ‹_› | exact ndT ‹_› | exact ndF ‹_› | (simp; done) | exact dt (by omega) | exact df (by omega) | exact ndT (by omega) | exact ndF (by omega) | omega) (hd : d < n := by exact lb rfl)
    (h1 : Sl.drive tab n 3000 (.ops all l :: k) ((d, undef) :: ρ) = some (s', ρ') := by exact rfl) (h2 : norm? L = some L' := by exact rfl) :
    W Tryz.prog n R cx (.ops all (⟨some d, op, ty, pos, af, some (j, want)⟩ :: l) :: k) ρ L := W.guardSkip hj hb hw hd (W.step tab_ok h1 h2 h)
theorem aUn (h : W Tryz.prog n R cx s' ρ' L') (hj : (all[j]?).bind (·.dst) = some sl := by exact rfl) (hb : ρ.get? sl = some undef := by exact rfl) (hd : d < n := by exact lb rfl)
    (h1 : Sl.drive tab n 3000 (.ops all l :: k) ((d, undef) :: ρ) = some (s', ρ') := by exact rfl) (h2 : norm? L = some L' := by exact rfl) :
    W Tryz.prog n R cx (.ops all (⟨some d, op, ty, pos, af, some (j, want)⟩ :: l) :: k) ρ L := W.guardUndef hj hb hd (W.step tab_ok h1 h2 h)
theorem aPT (h : W Tryz.prog n R cx s' ρ' L') (hc : ev? ρ c = some (.bool bb) := by exact rfl) (hx : ev? ρ x = some v := by exact rfl) (hb : bb = true := by first | rfl | exact dt ‹_› | exact df ‹_› | exact ndT ‹_› | exact ndF ‹_› | (simp; done) | exact dt (by omega) | exact df (by omega) | exact ndT (by omega) | exact ndF (by omega) | omega) (hd : d < n := by exact lb rfl)
    (h1 : Sl.drive tab n 3000 (.ops all l :: k) ((d, v) :: ρ) = some (s', ρ') := by exact rfl) (h2 : norm? L = some L' := by exact rfl) : W Tryz.prog n R cx (.ops all (⟨some d, .pick c x y, ty, pos, af, none⟩ :: l) :: k) ρ L :=
  W.val (OpVal.pickT hc hb hx) hd (W.step tab_ok h1 h2 h)
theorem aPF (h : W Tryz.prog n R cx s' ρ' L') (hc : ev? ρ c = some (.bool bb) := by exact rfl) (hy : ev? ρ y = some v := by exact rfl) (hb : bb = false := by first | rfl | exact dt ‹_› | exact df ‹_› | exact ndT ‹_› | exact ndF ‹_› | (simp; done) | exact dt (by omega) | exact df (by omega) | exact ndT (by omega) | exact ndF (by omega) | omega) (hd : d < n := by exact lb rfl)
    (h1 : Sl.drive tab n 3000 (.ops all l :: k) ((d, v) :: ρ) = some (s', ρ') := by exact rfl) (h2 : norm? L = some L' := by exact rfl) : W Tryz.prog n R cx (.ops all (⟨some d, .pick c x y, ty, pos, af, none⟩ :: l) :: k) ρ L :=
  W.val (OpVal.pickF hc hb hy) hd (W.step tab_ok h1 h2 h)
theorem aT (h : W Tryz.prog n R cx s' ρ' L') (hc : ev? ρ c = some (.bool bb) := by exact rfl)
    (hb : bb = true := by first | rfl | exact dt ‹_› | exact df ‹_› | exact ndT ‹_› | exact ndF ‹_› | (simp; done) | exact dt (by omega) | exact df (by omega) | exact ndT (by omega) | exact ndF (by omega) | omega) (h1 : Sl.drive tab n 3000 (.code ca :: k) ρ = some (s', ρ') := by exact rfl) (h2 : norm? L = some L' := by exact rfl) : W Tryz.prog n R cx (.code (.cond c ca cb) :: k) ρ L := W.iteT hc hb (W.step tab_ok h1 h2 h)
theorem aF (h : W Tryz.prog n R cx s' ρ' L') (hc : ev? ρ c = some (.bool bb) := by exact rfl)
    (hb : bb = false := by first | rfl | exact dt ‹_› | exact df ‹_› | exact ndT ‹_› | exact ndF ‹_› | (simp; done) | exact dt (by omega) | exact df (by omega) | exact ndT (by omega) | exact ndF (by omega) | omega) (h1 : Sl.drive tab n 3000 (.code cb :: k) ρ = some (s', ρ') := by exact rfl) (h2 : norm? L = some L' := by exact rfl) : W Tryz.prog n R cx (.code (.cond c ca cb) :: k) ρ L := W.iteF hc hb (W.step tab_ok h1 h2 h)
theorem aC {cc : Call} {fo : Operand} {xs : Array Operand} {tys : Array TypeId} {f : FuncId} {fst us cap args : List Value}
    (hc : cc = ⟨.value fo, xs, tys⟩ := by exact rfl) (hfo : ev? ρ fo = some (.func (.func f) fst.toArray cap.toArray) := by exact rfl) (hxs : evs? ρ xs.toList = some us := by exact rfl) (hargs : fst ++ us ++ cap = args := by exact rfl)
    (o : Ctr Tryz.prog f args pre ro post) (h : ∀ v L', post v L' → W Tryz.prog n R cx (.ops all l :: k) ((d, v) :: ρ) (L' ++ rest))
    (hsel : Sel L pre rest := by repeat (first | exact Sel.nil | (apply Sel.cons; (repeat (first | exact Pick.here | apply Pick.there)))))
    (hro : RoIn R rest ro := by repeat (first | exact RoIn.nil | exact RoIn.same | refine RoIn.cons (by first | exact at_own 0 rfl | exact at_own 1 rfl | exact at_own 2 rfl | exact at_own 3 rfl | exact at_own 4 rfl | exact at_own 5 rfl | exact at_own 6 rfl | exact at_own 7 rfl | exact at_own 8 rfl | exact at_own 9 rfl | exact at_own 10 rfl | exact at_own 11 rfl | exact at_ro 0 rfl | exact at_ro 1 rfl | exact at_ro 2 rfl | exact at_ro 3 rfl | exact at_ro 4 rfl | exact at_ro 5 rfl) ?_ | refine RoIn.append ?_ ?_ | exact RoIn.own 0 rfl | exact RoIn.own 1 rfl | exact RoIn.own 2 rfl | exact RoIn.own 3 rfl | exact RoIn.own 4 rfl | exact RoIn.own 5 rfl | exact RoIn.own 6 rfl | exact RoIn.own 7 rfl | exact RoIn.own 8 rfl | exact RoIn.own 9 rfl | exact RoIn.own 10 rfl | exact RoIn.own 11 rfl | (intro p hp; simp [hp]; done)))
    (hd : d < n := by exact lb rfl) : W Tryz.prog n R cx (.ops all (⟨some d, .call cc, ty, pos, af, none⟩ :: l) :: k) ρ L := W.call hc hfo hxs hargs o hsel hro hd h
theorem aCV {cc : Call} {fo : Operand} {xs : Array Operand} {tys : Array TypeId} {fv : Value} {us : List Value}
    (hc : cc = ⟨.value fo, xs, tys⟩ := by exact rfl) (hfo : ev? ρ fo = some fv := by exact rfl) (hxs : evs? ρ xs.toList = some us := by exact rfl)
    (o : CtrV Tryz.prog fv us pre ro post) (h : ∀ v L', post v L' → W Tryz.prog n R cx (.ops all l :: k) ((d, v) :: ρ) (L' ++ rest))
    (hsel : Sel L pre rest := by repeat (first | exact Sel.nil | (apply Sel.cons; (repeat (first | exact Pick.here | apply Pick.there)))))
    (hro : RoIn R rest ro := by repeat (first | exact RoIn.nil | exact RoIn.same | refine RoIn.cons (by first | exact at_own 0 rfl | exact at_own 1 rfl | exact at_own 2 rfl | exact at_own 3 rfl | exact at_own 4 rfl | exact at_own 5 rfl | exact at_own 6 rfl | exact at_own 7 rfl | exact at_own 8 rfl | exact at_own 9 rfl | exact at_own 10 rfl | exact at_own 11 rfl | exact at_ro 0 rfl | exact at_ro 1 rfl | exact at_ro 2 rfl | exact at_ro 3 rfl | exact at_ro 4 rfl | exact at_ro 5 rfl) ?_ | refine RoIn.append ?_ ?_ | exact RoIn.own 0 rfl | exact RoIn.own 1 rfl | exact RoIn.own 2 rfl | exact RoIn.own 3 rfl | exact RoIn.own 4 rfl | exact RoIn.own 5 rfl | exact RoIn.own 6 rfl | exact RoIn.own 7 rfl | exact RoIn.own 8 rfl | exact RoIn.own 9 rfl | exact RoIn.own 10 rfl | exact RoIn.own 11 rfl | (intro p hp; simp [hp]; done)))
    (hd : d < n := by exact lb rfl) : W Tryz.prog n R cx (.ops all (⟨some d, .call cc, ty, pos, af, none⟩ :: l) :: k) ρ L := W.callV hc hfo hxs o hsel hro hd h
theorem aPr (hp : Prim Tryz.prog n R cx op ty ρ L pre post) (hk : ∀ v L', post v L' → W Tryz.prog n R cx (.ops all l :: k) ((d, v) :: ρ) (L' ++ rest))
    (hsel : Sel L pre rest := by repeat (first | exact Sel.nil | (apply Sel.cons; (repeat (first | exact Pick.here | apply Pick.there))))) (hd : d < n := by exact lb rfl) :
    W Tryz.prog n R cx (.ops all (⟨some d, op, ty, pos, af, none⟩ :: l) :: k) ρ L := W.prim hp hsel hd hk
theorem aPu (hp : Prim Tryz.prog n R cx op ty ρ L pre post) (hk : ∀ v L', post v L' → W Tryz.prog n R cx (.ops all l :: k) ρ (L' ++ rest))
    (hsel : Sel L pre rest := by repeat (first | exact Sel.nil | (apply Sel.cons; (repeat (first | exact Pick.here | apply Pick.there))))) :
    W Tryz.prog n R cx (.ops all (⟨none, op, ty, pos, af, none⟩ :: l) :: k) ρ L := W.primU hp hsel hk
theorem aSkp {post : List HL → Prop} (hp : Skips Tryz.prog n R cx op ty ρ L pre post) (hk : ∀ L', post L' → W Tryz.prog n R cx (.ops all l :: k) ρ (L' ++ rest))
    (hsel : Sel L pre rest := by repeat (first | exact Sel.nil | (apply Sel.cons; (repeat (first | exact Pick.here | apply Pick.there))))) :
    W Tryz.prog n R cx (.ops all (⟨none, op, ty, pos, af, none⟩ :: l) :: k) ρ L := W.skips hp hsel hk
theorem aSl {bytes len : Nat} {ps : List (Nat × Operand)} {z : Value} {zs zz out : List Value} {q : List (Nat × List Value)}
    (h : ∀ b, W Tryz.prog n R cx (.ops all l :: k) ((d, .slice (some ⟨b, 0, none⟩) len len) :: ρ) ([(b, .cells out.toArray e (0, 0))] :: L))
    (ht : look? tab.sls t = some e := by exact rfl) (hi : look? tab.infs e = some (m, bytes) := by exact rfl) (hz : look? tab.zeros e = some z := by exact rfl) (hzc : cells? z = some zs := by exact rfl) (hzl : zs.length = m := by exact rfl) (hrep : norm? (repL len zs) = some zz := by exact rfl)
    (hq : parts? ρ (apl m 0 len) ps = some q := by exact rfl) (hf : Fills (apl m 0 len) ρ ps := by repeat (first | exact trivial | refine ⟨⟨_, _, _, rfl, rfl, rfl⟩, ?_⟩)) (ho : lay? zz q = some out := by exact rfl) (hlen : len * m ≤ 16777216 := by exact lb rfl) (hd : d < n := by exact lb rfl) :
    W Tryz.prog n R cx (.ops all (⟨some d, .buildSlice t len ps.toArray, ty, pos, af, none⟩ :: l) :: k) ρ L := W.slit tab_ok ht hi hz hzc hzl hrep hq hf ho hlen hd h
theorem aBu {ps : List (Nat × Operand)} {z : Value} {zs out : List Value} {pl : List (Nat × Nat)} {q : List (Nat × List Value)} (h : W Tryz.prog n R cx s' ρ' L')
    (hz : look? tab.zeros t = some z := by exact rfl) (hzc : cells? z = some zs := by exact rfl) (hp : look? tab.flds t = some pl := by exact rfl) (hq : parts? ρ pl ps = some q := by exact rfl) (hf : Fills pl ρ ps := by repeat (first | exact trivial | refine ⟨⟨_, _, _, rfl, rfl, rfl⟩, ?_⟩)) (ho : lay? zs q = some out := by exact rfl) (hd : d < n := by exact lb rfl)
    (h1 : Sl.drive tab n 3000 (.ops all l :: k) ((d, .agg out.toArray) :: ρ) = some (s', ρ') := by exact rfl) (h2 : norm? L = some L' := by exact rfl) : W Tryz.prog n R cx (.ops all (⟨some d, .build t ps.toArray, ty, pos, af, none⟩ :: l) :: k) ρ L :=
  W.val (OpVal.build tab_ok hz hzc hp hq hf ho) hd (W.step tab_ok h1 h2 h)
theorem aAr {bo : BinOp} {kk : IntKind} {i i' r : Int} (o : OpVal Tryz.prog n R cx (.binOp bo t x y t') ty ρ L v) (h : W Tryz.prog n R cx s' ρ' L') (hd : d < n := by exact lb rfl)
    (h1 : Sl.drive tab n 3000 (.ops all l :: k) ((d, v) :: ρ) = some (s', ρ') := by exact rfl) (h2 : norm? L = some L' := by exact rfl) : W Tryz.prog n R cx (.ops all (⟨some d, .binOp bo t x y t', ty, pos, af, none⟩ :: l) :: k) ρ L :=
  W.val o hd (W.step tab_ok h1 h2 h)
theorem aLp {cd : Code} (I : Nat → Env → List HL → Prop) {m0 : Nat} {ρ0 : Env} {L0 X : List HL} (hsub : Env.sub ρ0 ρ := by repeat (first | exact trivial | refine ⟨rfl, ?_⟩))
    (hsel : Sel L L0 X := by repeat (first | exact Sel.nil | (apply Sel.cons; (repeat (first | exact Pick.here | apply Pick.there))))) (o : I m0 ρ0 L0)
    (h : ∀ m ρ1 L1, I m ρ1 L1 → W Tryz.prog n R cx (.code cd :: .rnd (fun ρ2 L2 => ∃ m', m' < m ∧ I m' ρ2 L2) :: k) ρ1 L1) : W Tryz.prog n R cx (.code (.loop cd) :: k) ρ L := W.loop I m0 ρ0 L0 hsub hsel o h
theorem aR {J : Env → List HL → Prop} {ρ1 : Env} {L1 X : List HL} (hsub : Env.sub ρ1 ρ := by repeat (first | exact trivial | refine ⟨rfl, ?_⟩))
    (hsel : Sel L L1 X := by repeat (first | exact Sel.nil | (apply Sel.cons; (repeat (first | exact Pick.here | apply Pick.there))))) (o : J ρ1 L1) : W Tryz.prog n R cx (.rnd J :: k) ρ L := W.rnd ρ1 L1 hsub hsel o
theorem aAp {bytes len cap nx cxx bx ox : Nat} {cs news : List Value} {a : Option Addr} {H : HL} {lx : List Value} {ex : TypeId} {frx : Nat × Nat} (ho : Own m e cs a len cap H)
    (hk : ∀ v L', (∃ a' cap' H', v = .slice a' (len + nx) cap' ∧ L' = [H'] ∧ Own m e (cs ++ news) a' (len + nx) cap' H') → W Tryz.prog n R cx (.ops all l :: k) ((d, v) :: ρ) (L' ++ rest))
    (ht : look? tab.sls t = some e := by exact rfl) (hi : look? tab.infs e = some (m, bytes) := by exact rfl) (hs : ev? ρ x = some (.slice a len cap) := by exact rfl) (hH : ∀ p ∈ H, p ∈ L.flatten := by (intro p hp; simp [hp]))
    (hx : ev? ρ y = some (.slice (some ⟨bx, ox, none⟩) nx cxx) := by exact rfl) (hb : At R L bx (.cells lx.toArray ex frx) := by repeat (first | exact oh | exact rh | exact rhF | apply ot | apply raF | apply rt)) (hn : seg? lx ox (nx * m) = some news := by exact rfl)
    (h1 : allOne news = true := by exact rfl) (hbig : (len + nx) * bytes ≤ 140737488355328 := by omega) (hbig2 : len + nx ≤ 140737488355328 := by omega)
    (hsel : Sel L [H] rest := by repeat (first | exact Sel.nil | (apply Sel.cons; (repeat (first | exact Pick.here | apply Pick.there))))) (hd : d < n := by exact lb rfl) :
    W Tryz.prog n R cx (.ops all (⟨some d, .call ⟨.builtin .append, #[x, y], #[t, t]⟩, ty, pos, af, none⟩ :: l) :: k) ρ L :=
  W.prim (app tab_ok ht hi hs ho hH hx hb hn h1 hbig hbig2) hsel hd hk
theorem aRc {t : Nat} {rs : List ResultVar} (hr : ResOk Tryz.prog R ρ L rs vs) (h : ρ.get? t = some (.pointer (some ⟨b, off, none⟩)) := by exact rfl) (hb : At R L b (.cells lv.toArray e fr) := by repeat (first | exact oh | exact rh | exact rhF | apply ot | apply raF | apply rt))
    (hv : ldv? tab ty lv off = some v := by exact rfl) : ResOk Tryz.prog R ρ L (.cell t ty :: rs) (v :: vs) := ResOk.cell tab_ok h hb hv hr
theorem aE {g : Nat × Bool} (h : W Tryz.prog n R cx (.ops all (⟨od, op, ty, pos, af, some g⟩ :: l) :: k) ρ L) : W Tryz.prog n R cx (.ops all (⟨od, op, ty, pos, af, some g⟩ :: l) :: k) ρ L := h
end
section
variable {n : Nat} {R : HL} {cx : Cx} {ρ ρ' : Env} {Y Y' : List HL} {ops : Array Oper} {K : Env → List HL → Prop} {el el' : List Kd} {fl : List (Nat × Obj)} {d : Nat} {od : Option Nat} {op : Op} {ty t t' : TypeId} {x y c : Operand} {pos : String} {af : Array Edge} {l l' : List Oper} {v : Value}
  {b off m j sl : Nat} {fr : Nat × Nat} {lv cl' vs : List Value} {e : TypeId} {ag want bb eb : Bool} {pre rest : List HL} {ro : HL} {post : Value → List HL → Prop}
theorem dG (h : WD Tryz.prog n R cx ops el' fl l' ρ' Y' K) (h1 : ddrive tab n el l ρ = some (el', l', ρ') := by exact rfl) (h2 : norm? Y = some Y' := by exact rfl) : WD Tryz.prog n R cx ops el fl l ρ Y K := WD.step tab_ok h1 h2 h
theorem dV (o : OpVal Tryz.prog n R cx op ty ρ [] v) (h : WD Tryz.prog n R cx ops el' fl l' ρ' Y' K) (hd : d < n := by exact lb rfl) (h1 : ddrive tab n el l ((d, v) :: ρ) = some (el', l', ρ') := by exact rfl) (h2 : norm? Y = some Y' := by exact rfl) :
    WD Tryz.prog n R cx ops (.b false :: el) fl (⟨some d, op, ty, pos, af, none⟩ :: l) ρ Y K := WD.val o hd (WD.step tab_ok h1 h2 h)
theorem dVA (o : OpVal Tryz.prog n R cx op ty ρ Y v) (h : WD Tryz.prog n R cx ops el' fl l' ρ' Y' K) (hd : d < n := by exact lb rfl) (h1 : ddrive tab n el l ((d, v) :: ρ) = some (el', l', ρ') := by exact rfl) (h2 : norm? Y = some Y' := by exact rfl) :
    WD Tryz.prog n R cx ops (.b true :: el) fl (⟨some d, op, ty, pos, af, none⟩ :: l) ρ Y K := WD.valA o hd (WD.step tab_ok h1 h2 h)
theorem dL (h : WD Tryz.prog n R cx ops el' fl l' ρ' Y' K) (hx : ev? ρ x = some (.pointer (some ⟨b, off, none⟩)) := by exact rfl) (hb : At R [] b (.cells lv.toArray e fr) := by repeat (first | exact rh | exact rhF | apply raF | apply rt))
    (hv : ldv? tab t lv off = some v := by exact rfl) (hd : d < n := by exact lb rfl) (h1 : ddrive tab n el l ((d, v) :: ρ) = some (el', l', ρ') := by exact rfl) (h2 : norm? Y = some Y' := by exact rfl) :
    WD Tryz.prog n R cx ops (.b false :: el) fl (⟨some d, .load t x, ty, pos, af, none⟩ :: l) ρ Y K := WD.val (OpVal.load tab_ok hx hb hv) hd (WD.step tab_ok h1 h2 h)
theorem dLA (h : WD Tryz.prog n R cx ops el' fl l' ρ' Y' K) (hx : ev? ρ x = some (.pointer (some ⟨b, off, none⟩)) := by exact rfl) (hb : At R Y b (.cells lv.toArray e fr) := by repeat (first | exact oh | exact rh | exact rhF | apply ot | apply raF | apply rt))
    (hv : ldv? tab t lv off = some v := by exact rfl) (hd : d < n := by exact lb rfl) (h1 : ddrive tab n el l ((d, v) :: ρ) = some (el', l', ρ') := by exact rfl) (h2 : norm? Y = some Y' := by exact rfl) :
    WD Tryz.prog n R cx ops (.b true :: el) fl (⟨some d, .load t x, ty, pos, af, none⟩ :: l) ρ Y K := WD.valA (OpVal.load tab_ok hx hb hv) hd (WD.step tab_ok h1 h2 h)
theorem dS {L2 : List HL} (h : WD Tryz.prog n R cx ops el' fl l' ρ' Y' K) (hx : ev? ρ x = some (.pointer (some ⟨b, off, none⟩)) := by exact rfl)
    (hu : Upd b (.cells lv.toArray e (0, 0)) (.cells cl'.toArray e (0, 0)) Y L2 := by repeat (first | exact Upd.here | apply Upd.there))
    (hy : ev? ρ y = some v := by exact rfl) (hc : cells? v = some vs := by exact rfl) (hz : look? tab.tys t = some (ag, m) := by exact rfl) (hl : vs.length = m := by exact rfl) (ho : allOne vs = true := by exact rfl)
    (hv : splice? lv off vs = some cl' := by exact rfl) (h1 : ddrive tab n el l ρ = some (el', l', ρ') := by exact rfl) (h2 : norm? L2 = some Y' := by exact rfl) :
    WD Tryz.prog n R cx ops (.b true :: el) fl (⟨none, .store t x y, ty, pos, af, none⟩ :: l) ρ Y K := WD.store tab_ok hx hu hy hc hz hl ho hv (WD.step tab_ok h1 h2 h)
theorem dW {o : Obj} {f : Nat → Value} (o1 : NewOf Tryz.prog n R cx op ty ρ Y o f) (h : ∀ b, WD Tryz.prog n R cx ops el fl l ((d, f b) :: ρ) ([(b, o)] :: Y) K) (hd : d < n := by exact lb rfl) :
    WD Tryz.prog n R cx ops (.b true :: el) fl (⟨some d, op, ty, pos, af, none⟩ :: l) ρ Y K := WD.new_ o1 hd h
theorem dN {z : Value} (h : ∀ b, WD Tryz.prog n R cx ops el fl l ((d, .pointer (some ⟨b, 0, none⟩)) :: ρ) ([(b, .cells vs.toArray t (0, 0))] :: Y) K) (hz : look? tab.zeros t = some z := by exact rfl) (hc : cells? z = some vs := by exact rfl) (hd : d < n := by exact lb rfl) :
    WD Tryz.prog n R cx ops (.b true :: el) fl (⟨some d, .alloc t, ty, pos, af, none⟩ :: l) ρ Y K := WD.new_ (NewOf.new tab_ok hz hc) hd h
theorem dB {z : Value} (h : ∀ b, WD Tryz.prog n R cx ops el fl l ((d, .pointer (some ⟨b, 0, none⟩)) :: ρ) ([(b, .cells vs.toArray t (0, 0))] :: Y) K) (hz : ev? ρ x = some z := by exact rfl) (hc : cells? z = some vs := by exact rfl) (hd : d < n := by exact lb rfl) :
    WD Tryz.prog n R cx ops (.b true :: el) fl (⟨some d, .box t x, ty, pos, af, none⟩ :: l) ρ Y K := WD.new_ (NewOf.box hz hc) hd h
theorem dSl {bytes len : Nat} {ps : List (Nat × Operand)} {z : Value} {zs zz out : List Value} {q : List (Nat × List Value)}
    (h : ∀ b, WD Tryz.prog n R cx ops el fl l ((d, .slice (some ⟨b, 0, none⟩) len len) :: ρ) ([(b, .cells out.toArray e (0, 0))] :: Y) K)
    (ht : look? tab.sls t = some e := by exact rfl) (hi : look? tab.infs e = some (m, bytes) := by exact rfl) (hz : look? tab.zeros e = some z := by exact rfl) (hzc : cells? z = some zs := by exact rfl) (hzl : zs.length = m := by exact rfl) (hrep : norm? (repL len zs) = some zz := by exact rfl)
    (hq : parts? ρ (apl m 0 len) ps = some q := by exact rfl) (hf : Fills (apl m 0 len) ρ ps := by repeat (first | exact trivial | refine ⟨⟨_, _, _, rfl, rfl, rfl⟩, ?_⟩)) (ho : lay? zz q = some out := by exact rfl) (hlen : len * m ≤ 16777216 := by exact lb rfl) (hd : d < n := by exact lb rfl) :
    WD Tryz.prog n R cx ops (.b true :: el) fl (⟨some d, .buildSlice t len ps.toArray, ty, pos, af, none⟩ :: l) ρ Y K := WD.new_ (NewOf.slit tab_ok ht hi hz hzc hzl hrep hq hf ho hlen) hd h
theorem dGo (h : WD Tryz.prog n R cx ops el' fl l' ρ' Y' K) (hj : (ops[j]?).bind (·.dst) = some sl := by exact rfl) (hb : ρ.get? sl = some (.bool bb) := by exact rfl)
    (o : OpVal Tryz.prog n R cx op ty ρ [] v := by exact pop_val tab_ok rfl) (hw : bb = want := by first | rfl | exact dt ‹_› | exact df ‹_› | exact ndT ‹_› | exact ndF ‹_› | (simp; done) | exact dt (by omega) | exact df (by omega) | exact ndT (by omega) | exact ndF (by omega) | omega) (hd : d < n := by exact lb rfl) (h1 : ddrive tab n el l ((d, v) :: ρ) = some (el', l', ρ') := by exact rfl) (h2 : norm? Y = some Y' := by exact rfl) :
    WD Tryz.prog n R cx ops (.b false :: el) fl (⟨some d, op, ty, pos, af, some (j, want)⟩ :: l) ρ Y K := WD.guardGoQ hj hb hw o hd (WD.step tab_ok h1 h2 h)
theorem dSk (h : WD Tryz.prog n R cx ops el' fl l' ρ' Y' K) (hj : (ops[j]?).bind (·.dst) = some sl := by exact rfl) (hb : ρ.get? sl = some (.bool bb) := by exact rfl)
    (hw : bb = !want := by first | rfl | exact dt ‹_› | exact df ‹_› | exact ndT ‹_› | exact ndF ‹_› | (simp; done) | exact dt (by omega) | exact df (by omega) | exact ndT (by omega) | exact ndF (by omega) | omega) (hd : d < n := by exact lb rfl) (h1 : ddrive tab n el l ((d, undef) :: ρ) = some (el', l', ρ') := by exact rfl) (h2 : norm? Y = some Y' := by exact rfl) :
    WD Tryz.prog n R cx ops (.b eb :: el) fl (⟨some d, op, ty, pos, af, some (j, want)⟩ :: l) ρ Y K := WD.guardSkip hj hb hw hd (WD.step tab_ok h1 h2 h)
theorem dUn (h : WD Tryz.prog n R cx ops el' fl l' ρ' Y' K) (hj : (ops[j]?).bind (·.dst) = some sl := by exact rfl) (hb : ρ.get? sl = some undef := by exact rfl)
    (hd : d < n := by exact lb rfl) (h1 : ddrive tab n el l ((d, undef) :: ρ) = some (el', l', ρ') := by exact rfl) (h2 : norm? Y = some Y' := by exact rfl) :
    WD Tryz.prog n R cx ops (.b eb :: el) fl (⟨some d, op, ty, pos, af, some (j, want)⟩ :: l) ρ Y K := WD.guardUndef hj hb hd (WD.step tab_ok h1 h2 h)
theorem dPT (h : WD Tryz.prog n R cx ops el' fl l' ρ' Y' K) (hc : ev? ρ c = some (.bool bb) := by exact rfl) (hx : ev? ρ x = some v := by exact rfl)
    (hb : bb = true := by first | rfl | exact dt ‹_› | exact df ‹_› | exact ndT ‹_› | exact ndF ‹_› | (simp; done) | exact dt (by omega) | exact df (by omega) | exact ndT (by omega) | exact ndF (by omega) | omega) (hd : d < n := by exact lb rfl) (h1 : ddrive tab n el l ((d, v) :: ρ) = some (el', l', ρ') := by exact rfl) (h2 : norm? Y = some Y' := by exact rfl) :
    WD Tryz.prog n R cx ops (.b false :: el) fl (⟨some d, .pick c x y, ty, pos, af, none⟩ :: l) ρ Y K := WD.val (OpVal.pickT hc hb hx) hd (WD.step tab_ok h1 h2 h)
theorem dPF (h : WD Tryz.prog n R cx ops el' fl l' ρ' Y' K) (hc : ev? ρ c = some (.bool bb) := by exact rfl) (hy : ev? ρ y = some v := by exact rfl)
    (hb : bb = false := by first | rfl | exact dt ‹_› | exact df ‹_› | exact ndT ‹_› | exact ndF ‹_› | (simp; done) | exact dt (by omega) | exact df (by omega) | exact ndT (by omega) | exact ndF (by omega) | omega) (hd : d < n := by exact lb rfl) (h1 : ddrive tab n el l ((d, v) :: ρ) = some (el', l', ρ') := by exact rfl) (h2 : norm? Y = some Y' := by exact rfl) :
    WD Tryz.prog n R cx ops (.b false :: el) fl (⟨some d, .pick c x y, ty, pos, af, none⟩ :: l) ρ Y K := WD.val (OpVal.pickF hc hb hy) hd (WD.step tab_ok h1 h2 h)
theorem dC {cc : Call} {fo : Operand} {xs : Array Operand} {tys : Array TypeId} {f : FuncId} {fst us cap args : List Value}
    (hc : cc = ⟨.value fo, xs, tys⟩ := by exact rfl) (hfo : ev? ρ fo = some (.func (.func f) fst.toArray cap.toArray) := by exact rfl) (hxs : evs? ρ xs.toList = some us := by exact rfl) (hargs : fst ++ us ++ cap = args := by exact rfl)
    (o : Ctr Tryz.prog f args pre ro post) (h : ∀ v L', post v L' → WD Tryz.prog n R cx ops el fl l ((d, v) :: ρ) (L' ++ rest) K)
    (hsel : Sel Y pre rest := by repeat (first | exact Sel.nil | (apply Sel.cons; (repeat (first | exact Pick.here | apply Pick.there)))))
    (hro : RoIn R rest ro := by repeat (first | exact RoIn.nil | exact RoIn.same | refine RoIn.cons (by first | exact at_own 0 rfl | exact at_own 1 rfl | exact at_own 2 rfl | exact at_own 3 rfl | exact at_own 4 rfl | exact at_own 5 rfl | exact at_own 6 rfl | exact at_own 7 rfl | exact at_own 8 rfl | exact at_own 9 rfl | exact at_own 10 rfl | exact at_own 11 rfl | exact at_ro 0 rfl | exact at_ro 1 rfl | exact at_ro 2 rfl | exact at_ro 3 rfl | exact at_ro 4 rfl | exact at_ro 5 rfl) ?_ | refine RoIn.append ?_ ?_ | exact RoIn.own 0 rfl | exact RoIn.own 1 rfl | exact RoIn.own 2 rfl | exact RoIn.own 3 rfl | exact RoIn.own 4 rfl | exact RoIn.own 5 rfl | exact RoIn.own 6 rfl | exact RoIn.own 7 rfl | exact RoIn.own 8 rfl | exact RoIn.own 9 rfl | exact RoIn.own 10 rfl | exact RoIn.own 11 rfl | (intro p hp; simp [hp]; done)))
    (hd : d < n := by exact lb rfl) : WD Tryz.prog n R cx ops (.b true :: el) fl (⟨some d, .call cc, ty, pos, af, none⟩ :: l) ρ Y K := WD.call hc hfo hxs hargs o hsel hro hd h
theorem dCG {cc : Call} {fo : Operand} {xs : Array Operand} {tys : Array TypeId} {f : FuncId} {fst us cap args : List Value}
    (hj : (ops[j]?).bind (·.dst) = some sl := by exact rfl) (hb : ρ.get? sl = some (.bool bb) := by exact rfl)
    (hw : bb = want := by first | rfl | exact dt ‹_› | exact df ‹_› | exact ndT ‹_› | exact ndF ‹_› | (simp; done) | exact dt (by omega) | exact df (by omega) | exact ndT (by omega) | exact ndF (by omega) | omega) (hc : cc = ⟨.value fo, xs, tys⟩ := by exact rfl) (hfo : ev? ρ fo = some (.func (.func f) fst.toArray cap.toArray) := by exact rfl) (hxs : evs? ρ xs.toList = some us := by exact rfl) (hargs : fst ++ us ++ cap = args := by exact rfl)
    (o : Ctr Tryz.prog f args pre ro post) (h : ∀ v L', post v L' → WD Tryz.prog n R cx ops el fl l ((d, v) :: ρ) (L' ++ rest) K)
    (hsel : Sel Y pre rest := by repeat (first | exact Sel.nil | (apply Sel.cons; (repeat (first | exact Pick.here | apply Pick.there)))))
    (hro : RoIn R rest ro := by repeat (first | exact RoIn.nil | exact RoIn.same | refine RoIn.cons (by first | exact at_own 0 rfl | exact at_own 1 rfl | exact at_own 2 rfl | exact at_own 3 rfl | exact at_own 4 rfl | exact at_own 5 rfl | exact at_own 6 rfl | exact at_own 7 rfl | exact at_own 8 rfl | exact at_own 9 rfl | exact at_own 10 rfl | exact at_own 11 rfl | exact at_ro 0 rfl | exact at_ro 1 rfl | exact at_ro 2 rfl | exact at_ro 3 rfl | exact at_ro 4 rfl | exact at_ro 5 rfl) ?_ | refine RoIn.append ?_ ?_ | exact RoIn.own 0 rfl | exact RoIn.own 1 rfl | exact RoIn.own 2 rfl | exact RoIn.own 3 rfl | exact RoIn.own 4 rfl | exact RoIn.own 5 rfl | exact RoIn.own 6 rfl | exact RoIn.own 7 rfl | exact RoIn.own 8 rfl | exact RoIn.own 9 rfl | exact RoIn.own 10 rfl | exact RoIn.own 11 rfl | (intro p hp; simp [hp]; done)))
    (hd : d < n := by exact lb rfl) : WD Tryz.prog n R cx ops (.b true :: el) fl (⟨some d, .call cc, ty, pos, af, some (j, want)⟩ :: l) ρ Y K := WD.guardGoCall hj hb hw hc hfo hxs hargs o hsel hro hd h
theorem dQ {cc : Call} {fo : Operand} {xs : Array Operand} {tys : Array TypeId} {f : FuncId} {fst us cap args : List Value}
    (hc : cc = ⟨.value fo, xs, tys⟩ := by exact rfl) (hfo : ev? ρ fo = some (.func (.func f) fst.toArray cap.toArray) := by exact rfl) (hxs : evs? ρ xs.toList = some us := by exact rfl) (hargs : fst ++ us ++ cap = args := by exact rfl)
    (hi : Tryz.prog.inits.idxOf? f = none := by kernel_rfl) (o : Ctr Tryz.prog f args [] ro post) (h : WD Tryz.prog n R cx ops el' fl l' ρ' Y' K) (hv : ∀ u L', post u L' → u = v := by (rintro _ _ ⟨rfl, _⟩; rfl)) (hro : ∀ p ∈ ro, p ∈ R := by first | (intro p hp; cases hp; done) | (intro p hp; simpa using hp) | (intro p hp; simp at hp ⊢; simp [hp]; done)) (hd : d < n := by exact lb rfl) (h1 : ddrive tab n el l ((d, v) :: ρ) = some (el', l', ρ') := by exact rfl) (h2 : norm? Y = some Y' := by exact rfl) :
    WD Tryz.prog n R cx ops (.b false :: el) fl (⟨some d, .call cc, ty, pos, af, none⟩ :: l) ρ Y K := WD.callQ v hc hfo hxs hargs hi o hv hro hd (WD.step tab_ok h1 h2 h)
end
section
variable {mo : Bool} {n : Nat} {R : HL} {cx : Cx} {ρ ρ' : Env} {L : List HL} {all : Array Oper} {K : Env → Prop} {d : Nat} {od : Option Nat} {op : Op} {ty t t' : TypeId} {x y c : Operand} {pos : String} {af : Array Edge} {l l' : List Oper} {v : Value}
  {b off m j sl : Nat} {fr : Nat × Nat} {lv : List Value} {e : TypeId} {want bb : Bool} {ro : HL} {post : Value → List HL → Prop}
theorem zG (h : WZ mo Tryz.prog n R cx all l' ρ' L K) (h1 : zdrive tab n l ρ = some (l', ρ') := by exact rfl) : WZ mo Tryz.prog n R cx all l ρ L K := WZ.drive tab_ok h1 h
theorem zV (o : OpVal Tryz.prog n R cx op ty ρ L v) (h : WZ mo Tryz.prog n R cx all l' ρ' L K) (hd : d < n := by exact lb rfl) (h1 : zdrive tab n l ((d, v) :: ρ) = some (l', ρ') := by exact rfl) :
    WZ mo Tryz.prog n R cx all (⟨some d, op, ty, pos, af, none⟩ :: l) ρ L K := WZ.val o hd (WZ.drive tab_ok h1 h)
theorem zL (h : WZ mo Tryz.prog n R cx all l' ρ' L K) (hx : ev? ρ x = some (.pointer (some ⟨b, off, none⟩)) := by exact rfl) (hb : At R L b (.cells lv.toArray e fr) := by repeat (first | exact oh | exact rh | exact rhF | apply ot | apply raF | apply rt))
    (hv : ldv? tab t lv off = some v := by exact rfl) (hd : d < n := by exact lb rfl) (h1 : zdrive tab n l ((d, v) :: ρ) = some (l', ρ') := by exact rfl) :
    WZ mo Tryz.prog n R cx all (⟨some d, .load t x, ty, pos, af, none⟩ :: l) ρ L K := WZ.val (OpVal.load tab_ok hx hb hv) hd (WZ.drive tab_ok h1 h)
theorem zGo (h : WZ mo Tryz.prog n R cx all l' ρ' L K) (hj : (all[j]?).bind (·.dst) = some sl := by exact rfl) (hb : ρ.get? sl = some (.bool bb) := by exact rfl)
    (hw : bb = want := by first | rfl | exact dt ‹_› | exact df ‹_› | exact ndT ‹_› | exact ndF ‹_› | (simp; done) | exact dt (by omega) | exact df (by omega) | exact ndT (by omega) | exact ndF (by omega) | omega) (h1 : zdrive tab n (⟨od, op, ty, pos, af, none⟩ :: l) ρ = some (l', ρ') := by exact rfl) : WZ mo Tryz.prog n R cx all (⟨od, op, ty, pos, af, some (j, want)⟩ :: l) ρ L K := WZ.guardGo hj hb hw (WZ.drive tab_ok h1 h)
theorem zSk (h : WZ mo Tryz.prog n R cx all l' ρ' L K) (hj : (all[j]?).bind (·.dst) = some sl := by exact rfl) (hb : ρ.get? sl = some (.bool bb) := by exact rfl)
    (hw : bb = !want := by first | rfl | exact dt ‹_› | exact df ‹_› | exact ndT ‹_› | exact ndF ‹_› | (simp; done) | exact dt (by omega) | exact df (by omega) | exact ndT (by omega) | exact ndF (by omega) | omega) (hd : d < n := by exact lb rfl) (h1 : zdrive tab n l ((d, undef) :: ρ) = some (l', ρ') := by exact rfl) : WZ mo Tryz.prog n R cx all (⟨some d, op, ty, pos, af, some (j, want)⟩ :: l) ρ L K := WZ.guardSkip hj hb hw hd (WZ.drive tab_ok h1 h)
theorem zUn (h : WZ mo Tryz.prog n R cx all l' ρ' L K) (hj : (all[j]?).bind (·.dst) = some sl := by exact rfl) (hb : ρ.get? sl = some undef := by exact rfl)
    (hd : d < n := by exact lb rfl) (h1 : zdrive tab n l ((d, undef) :: ρ) = some (l', ρ') := by exact rfl) : WZ mo Tryz.prog n R cx all (⟨some d, op, ty, pos, af, some (j, want)⟩ :: l) ρ L K := WZ.guardUndef hj hb hd (WZ.drive tab_ok h1 h)
theorem zPT (h : WZ mo Tryz.prog n R cx all l' ρ' L K) (hc : ev? ρ c = some (.bool bb) := by exact rfl) (hx : ev? ρ x = some v := by exact rfl)
    (hb : bb = true := by first | rfl | exact dt ‹_› | exact df ‹_› | exact ndT ‹_› | exact ndF ‹_› | (simp; done) | exact dt (by omega) | exact df (by omega) | exact ndT (by omega) | exact ndF (by omega) | omega) (hd : d < n := by exact lb rfl) (h1 : zdrive tab n l ((d, v) :: ρ) = some (l', ρ') := by exact rfl) : WZ mo Tryz.prog n R cx all (⟨some d, .pick c x y, ty, pos, af, none⟩ :: l) ρ L K := WZ.val (OpVal.pickT hc hb hx) hd (WZ.drive tab_ok h1 h)
theorem zPF (h : WZ mo Tryz.prog n R cx all l' ρ' L K) (hc : ev? ρ c = some (.bool bb) := by exact rfl) (hy : ev? ρ y = some v := by exact rfl)
    (hb : bb = false := by first | rfl | exact dt ‹_› | exact df ‹_› | exact ndT ‹_› | exact ndF ‹_› | (simp; done) | exact dt (by omega) | exact df (by omega) | exact ndT (by omega) | exact ndF (by omega) | omega) (hd : d < n := by exact lb rfl) (h1 : zdrive tab n l ((d, v) :: ρ) = some (l', ρ') := by exact rfl) : WZ mo Tryz.prog n R cx all (⟨some d, .pick c x y, ty, pos, af, none⟩ :: l) ρ L K := WZ.val (OpVal.pickF hc hb hy) hd (WZ.drive tab_ok h1 h)
theorem zC {cc : Call} {fo : Operand} {xs : Array Operand} {tys : Array TypeId} {f : FuncId} {fst us cap args : List Value}
    (hc : cc = ⟨.value fo, xs, tys⟩ := by exact rfl) (hfo : ev? ρ fo = some (.func (.func f) fst.toArray cap.toArray) := by exact rfl) (hxs : evs? ρ xs.toList = some us := by exact rfl) (hargs : fst ++ us ++ cap = args := by exact rfl)
    (o : Ctr Tryz.prog f args [] ro post) (h : WZ true Tryz.prog n R cx all l' ρ' L K) (hv : ∀ u L', post u L' → u = v := by (rintro _ _ ⟨rfl, _⟩; rfl)) (hro : RoIn R L ro := by repeat (first | exact RoIn.nil | exact RoIn.same | refine RoIn.cons (by first | exact at_own 0 rfl | exact at_own 1 rfl | exact at_own 2 rfl | exact at_own 3 rfl | exact at_own 4 rfl | exact at_own 5 rfl | exact at_own 6 rfl | exact at_own 7 rfl | exact at_own 8 rfl | exact at_own 9 rfl | exact at_own 10 rfl | exact at_own 11 rfl | exact at_ro 0 rfl | exact at_ro 1 rfl | exact at_ro 2 rfl | exact at_ro 3 rfl | exact at_ro 4 rfl | exact at_ro 5 rfl) ?_ | refine RoIn.append ?_ ?_ | exact RoIn.own 0 rfl | exact RoIn.own 1 rfl | exact RoIn.own 2 rfl | exact RoIn.own 3 rfl | exact RoIn.own 4 rfl | exact RoIn.own 5 rfl | exact RoIn.own 6 rfl | exact RoIn.own 7 rfl | exact RoIn.own 8 rfl | exact RoIn.own 9 rfl | exact RoIn.own 10 rfl | exact RoIn.own 11 rfl | (intro p hp; simp [hp]; done))) (hd : d < n := by exact lb rfl) (h1 : zdrive tab n l ((d, v) :: ρ) = some (l', ρ') := by exact rfl) : WZ true Tryz.prog n R cx all (⟨some d, .call cc, ty, pos, af, none⟩ :: l) ρ L K := WZ.call v hc hfo hxs hargs o hro hd hv (WZ.drive tab_ok h1 h)
end
section
variable {n : Nat} {R : HL} {cx : Cx} {k : List Kont} {ρ : Env} {L : List HL} {all : Array Oper} {d : Nat} {ty t : TypeId} {x : Operand} {pos : String} {af : Array Edge} {l : List Oper} {vs : List Value} {s' : Nat → List Kont} {ρ' : Nat → Env} {L' : Nat → List HL}
theorem gN {z : Value} (h : ∀ b, W Tryz.prog n R cx (s' b) (ρ' b) (L' b)) (hz : look? tab.zeros t = some z := by exact rfl) (hc : cells? z = some vs := by exact rfl) (hd : d < n := by exact lb rfl)
    (h1 : ∀ b, Sl.drive tab n 3000 (.ops all l :: k) ((d, .pointer (some ⟨b, 0, none⟩)) :: ρ) = some (s' b, ρ' b) := by (intro b; exact rfl)) (h2 : ∀ b, norm? ([(b, Obj.cells vs.toArray t (0, 0))] :: L) = some (L' b) := by (intro b; exact rfl)) :
    W Tryz.prog n R cx (.ops all (⟨some d, .alloc t, ty, pos, af, none⟩ :: l) :: k) ρ L := W.new tab_ok hz hc hd fun b => W.step tab_ok (h1 b) (h2 b) (h b)
theorem gB {z : Value} (h : ∀ b, W Tryz.prog n R cx (s' b) (ρ' b) (L' b)) (hz : ev? ρ x = some z := by exact rfl) (hc : cells? z = some vs := by exact rfl) (hd : d < n := by exact lb rfl)
    (h1 : ∀ b, Sl.drive tab n 3000 (.ops all l :: k) ((d, .pointer (some ⟨b, 0, none⟩)) :: ρ) = some (s' b, ρ' b) := by (intro b; exact rfl)) (h2 : ∀ b, norm? ([(b, Obj.cells vs.toArray t (0, 0))] :: L) = some (L' b) := by (intro b; exact rfl)) :
    W Tryz.prog n R cx (.ops all (⟨some d, .box t x, ty, pos, af, none⟩ :: l) :: k) ρ L := W.box hz hc hd fun b => W.step tab_ok (h1 b) (h2 b) (h b)
end
structure Kept (p : Prop) : Prop where
  it : p
theorem gw {p q : Prop} (hh_ : p) (t : Kept p → q := by (intro hz_; (first | refine aL ?_ | refine aS ?_ | fail); (repeat (first | refine aL ?_ | refine aS ?_ | fail)); exact hz_.it)) : q := t ⟨hh_⟩
theorem gx {p q : Prop} (hh_ : p) (t : Kept p → q := by (intro hz_; (first | refine aL ?_ | refine aS ?_ | (refine W.isGuard ?_; first | refine aGo ?_ | refine aSk ?_ | refine aUn ?_ | fail) | (refine W.isPick ?_; first | refine aPT ?_ | refine aPF ?_ | fail) | (refine W.isBin ?_; first | refine aV (OpVal.neBool tab_ok rfl rfl rfl) ?_ | refine aV (OpVal.eqBool tab_ok rfl rfl rfl) ?_ | refine aV (OpVal.eqNil tab_ok rfl rfl rfl) ?_ | refine aV (OpVal.neNil tab_ok rfl rfl rfl) ?_ | refine aV (OpVal.add rfl rfl (i64_in _ (by omega))) ?_ | refine aV (OpVal.sub rfl rfl (i64_in _ (by omega))) ?_ | fail) | (refine W.isCond ?_; first | refine aT ?_ | refine aF ?_ | fail) | fail); (repeat (first | refine aL ?_ | refine aS ?_ | (refine W.isGuard ?_; first | refine aGo ?_ | refine aSk ?_ | refine aUn ?_ | fail) | (refine W.isPick ?_; first | refine aPT ?_ | refine aPF ?_ | fail) | (refine W.isBin ?_; first | refine aV (OpVal.neBool tab_ok rfl rfl rfl) ?_ | refine aV (OpVal.eqBool tab_ok rfl rfl rfl) ?_ | refine aV (OpVal.eqNil tab_ok rfl rfl rfl) ?_ | refine aV (OpVal.neNil tab_ok rfl rfl rfl) ?_ | refine aV (OpVal.add rfl rfl (i64_in _ (by omega))) ?_ | refine aV (OpVal.sub rfl rfl (i64_in _ (by omega))) ?_ | fail) | (refine W.isCond ?_; first | refine aT ?_ | refine aF ?_ | fail) | fail)); exact hz_.it)) : q := t ⟨hh_⟩
theorem gh {p q r : Prop} (g_ : r) (hh_ : p) (t : r → Kept p → q := by (intro gg_ hz_; (first | refine aL ?_ | refine aS ?_ | (refine W.isGuard ?_; first | refine aGo ?_ | refine aSk ?_ | refine aUn ?_ | refine aGo ?_ (hw := by first | (simp [gg_]; done) | omega) | refine aSk ?_ (hw := by first | (simp [gg_]; done) | omega) | fail) | (refine W.isPick ?_; first | refine aPT ?_ | refine aPF ?_ | refine aPT ?_ (hb := by first | (simp [gg_]; done) | omega) | refine aPF ?_ (hb := by first | (simp [gg_]; done) | omega) | fail) | (refine W.isBin ?_; first | refine aV (OpVal.neBool tab_ok rfl rfl rfl) ?_ | refine aV (OpVal.eqBool tab_ok rfl rfl rfl) ?_ | refine aV (OpVal.eqNil tab_ok rfl rfl rfl) ?_ | refine aV (OpVal.neNil tab_ok rfl rfl rfl) ?_ | refine aV (OpVal.add rfl rfl (i64_in _ (by omega))) ?_ | refine aV (OpVal.sub rfl rfl (i64_in _ (by omega))) ?_ | fail) | (refine W.isCond ?_; first | refine aT ?_ | refine aF ?_ | refine aT ?_ (hb := by first | (simp [gg_]; done) | omega) | refine aF ?_ (hb := by first | (simp [gg_]; done) | omega) | fail) | fail); (repeat (first | refine aL ?_ | refine aS ?_ | (refine W.isGuard ?_; first | refine aGo ?_ | refine aSk ?_ | refine aUn ?_ | refine aGo ?_ (hw := by first | (simp [gg_]; done) | omega) | refine aSk ?_ (hw := by first | (simp [gg_]; done) | omega) | fail) | (refine W.isPick ?_; first | refine aPT ?_ | refine aPF ?_ | refine aPT ?_ (hb := by first | (simp [gg_]; done) | omega) | refine aPF ?_ (hb := by first | (simp [gg_]; done) | omega) | fail) | (refine W.isBin ?_; first | refine aV (OpVal.neBool tab_ok rfl rfl rfl) ?_ | refine aV (OpVal.eqBool tab_ok rfl rfl rfl) ?_ | refine aV (OpVal.eqNil tab_ok rfl rfl rfl) ?_ | refine aV (OpVal.neNil tab_ok rfl rfl rfl) ?_ | refine aV (OpVal.add rfl rfl (i64_in _ (by omega))) ?_ | refine aV (OpVal.sub rfl rfl (i64_in _ (by omega))) ?_ | fail) | (refine W.isCond ?_; first | refine aT ?_ | refine aF ?_ | refine aT ?_ (hb := by first | (simp [gg_]; done) | omega) | refine aF ?_ (hb := by first | (simp [gg_]; done) | omega) | fail) | fail)); exact hz_.it)) : q := t g_ ⟨hh_⟩
theorem gd {p r : Prop} (g_ : r) (t : r → p := by (intro gg_; first | rfl | (simp [gg_]; done) | omega)) : p := t g_
theorem gc2 {p q : Prop} (a : p) (b : q) : p ∧ q := ⟨a, b⟩
theorem gc3 {p q r : Prop} (a : p) (b : q) (c : r) : p ∧ q ∧ r := ⟨a, b, c⟩
theorem gc4 {p q r s : Prop} (a : p) (b : q) (c : r) (d : s) : p ∧ q ∧ r ∧ s := ⟨a, b, c, d⟩
theorem gc5 {p q r s t : Prop} (a : p) (b : q) (c : r) (d : s) (e : t) : p ∧ q ∧ r ∧ s ∧ t := ⟨a, b, c, d, e⟩
end Go.Proofs.YtfajcpnbhnddbaaGreat
namespace Go.Proofs.YtfajcpnbhnddbaaGreat
open Go Go.Sl Go.IntWalk
def around (x m : Int) : Int := (if x < 0 then -(x + 1) else x).tmod m
theorem Around_spec (x m : Int) (hx : -9223372036854775808 ≤ x ∧ x ≤ 9223372036854775807) (hm : 0 < m) :
    Ctr Tryz.prog 7 [.int .i64 x, .int .i64 m] [] [] (fun v L' => v = .int .i64 (around x m) ∧ L' = []) := by
  refine Ctr.enter (n := 13) [.tmp 4] [(0, _), (1, _)] Tryz.func7 rfl rfl rfl (lb rfl) Tryz.call7 ⟨rfl, rfl, trivial⟩ ?_
  intro cx fin fin0
  refine aG ?_
  by_cases h : x < 0
  · refine aT ?_ (hb := by exact gd h)
    refine aV (OpVal.add rfl rfl (i64_in _ (by omega))) ?_
    refine aV (OpVal.neg rfl (i64_in _ (by omega))) ?_
    refine aV (OpVal.rem rfl rfl (by omega) rfl) ?_
    refine W.ret (fin _ _ (FinOk.mk' ([]) (.tmp rfl .nil) (by repeat (first | exact Sel.nil | (apply Sel.cons; (repeat (first | exact Pick.here | apply Pick.there))))) rfl ?_))
    exact ⟨by simp only [pack, around, if_pos h], rfl⟩
  · refine aF ?_ (hb := by exact gd h)
    refine aV (OpVal.rem rfl rfl (by omega) rfl) ?_
    refine W.ret (fin _ _ (FinOk.mk' ([]) (.tmp rfl .nil) (by repeat (first | exact Sel.nil | (apply Sel.cons; (repeat (first | exact Pick.here | apply Pick.there))))) rfl ?_))
    exact ⟨by simp only [pack, around, if_neg h], rfl⟩
theorem around_range (x m : Int) (hm : 0 < m) : 0 ≤ around x m ∧ around x m < m := by
  unfold around
  have : 0 ≤ (if x < 0 then -(x + 1) else x) := by split <;> omega
  generalize (if x < 0 then -(x + 1) else x) = y at *
  rw [Int.tmod_eq_emod_of_nonneg this]
  exact ⟨Int.emod_nonneg _ (by omega), Int.emod_lt_of_pos _ hm⟩
end Go.Proofs.YtfajcpnbhnddbaaGreat
namespace Go.Sl
open Go Go.RowKit Go.ChangeShapes Go.WideShapes Go.Deep
theorem Ctr.below {P : Program} {f : FuncId} {args : List Value} {ro : HL} {post : Value → List HL → Prop} (h : Ctr P f args [] ro post) {W : World} (hro : ∀ p ∈ ro, W.heap[p.1]? = some p.2) {v : Value}
    (hv : ∀ u L', post u L' → u = v) : Calls P f args.toArray W fun e w' => e = .returned v ∧ Below W.heap.size W w' := by
  refine (h.go W (fun p hp => by simp at hp) (by simp [ids]) (fun p hp => ⟨hro p hp, by simp [ids]⟩)).mono ?_
  rintro e w' ⟨u, L', rfl, hpost, hst⟩
  exact ⟨by rw [hv u L' hpost], ⟨hst.env.1, hst.env.2.1, hst.env.2.2, hst.sz, fun k hk => hst.fr k hk (by simp [ids])⟩⟩
theorem trodAll_below {H : Type} {enc : TypeId × Value → H} {P : Program} (hl : laidOutB P = true) {W W' : World} (hb : Below W.heap.size W W') :
    ∀ (ts : List TypeId) (vs : List Value) (ds : List (DataW H)) (ps : List MemPlace), (∀ t ∈ ts, P.readableRec t = true ∧ t < P.types.size) → (∀ x ∈ ps, x.block < W.heap.size) →
      DataW.TrodAll enc P W 0 (fun _ => true) true ts vs ds ps → DataW.TrodAll enc P W' 0 (fun b => decide (b < W.heap.size)) true ts vs ds ps
  | [], [], [], _, _, _, h => h
  | t :: ts, v :: vs, d :: ds, ps, hr, hlt, h => by
    obtain ⟨p, q, h1, h2, rfl⟩ := h
    have hrt := hr t (by simp)
    exact ⟨p, q, Below.trod hl hrt.1 hrt.2 h1 hb (fun x hx => hlt x (by simp [hx])), trodAll_below hl hb ts vs ds q (fun t ht => hr t (by simp [ht])) (fun x hx => hlt x (by simp [hx])) h2, rfl⟩
  | [], _ :: _, _, _, _, _, h => by simp [DataW.TrodAll] at h
  | [], [], _ :: _, _, _, _, h => by simp [DataW.TrodAll] at h
  | _ :: _, [], _, _, _, _, h => by simp [DataW.TrodAll] at h
  | _ :: _, _ :: _, [], _, _, _, h => by simp [DataW.TrodAll] at h
theorem law_end {H : Type} {enc : TypeId × Value → H} {P : Program} {f : Func} {s : ChangeSpec} {W W' : World} {args : Array Value} {ds : List (DataW H)} {before : List MemPlace} {tb : TypeId}
    (hl : laidOutB P = true) (hr0 : (f.params.toList.all fun t => P.readableRec t && decide (t < P.types.size)) = true) (hres : f.resultTypes = #[tb]) (hb : P.underlying tb = some .bool)
    (hW : DataW.Whole enc P f.params.toList s.vars false W args.toList ds [] before) (hv : s.vars = [])
    (h1 : (s.fn H (ds ++ [])).results = [.lit (.bool true)]) (h2 : (s.fn H (ds ++ [])).args = ds) (h3 : (s.fn H (ds ++ [])).vars = [])
    (hbel : Below W.heap.size W W') : s.post enc P f false true false false W args (.bool true) W' := by
  have hr : ∀ t ∈ f.params.toList, P.readableRec t = true ∧ t < P.types.size := fun t ht => by
    have := List.all_eq_true.1 hr0 t ht
    simpa using this
  have hlt := hW.lt
  have hW2 := hW
  obtain ⟨p, q, hA, hV, rfl, _, _⟩ := hW2
  refine ⟨ds, [], _, [], p, [], hW, ?_, ?_, ?_, hbel.frame _, fun h => by cases h⟩
  · rw [hres, h1]
    exact trodAll_mk1 (shut_bool hb true)
  · rw [h2]
    exact trodAll_below hl hbel _ _ _ _ hr (fun x hx => hlt x (by simp [hx])) hA
  · rw [hv, h3]
    rfl
theorem choose_list {X : Type} (p : Nat → X → Prop) : ∀ n : Nat, (∀ i, i < n → ∃ x, p i x) → ∃ xs : List X, xs.length = n ∧ ∀ i (h : i < xs.length), p i xs[i]
  | 0, _ => ⟨[], rfl, fun i h => by simp at h⟩
  | n + 1, h => by
    obtain ⟨xs, hl, hx⟩ := choose_list p n (fun i hi => h i (by omega))
    obtain ⟨x, hxp⟩ := h n (by omega)
    refine ⟨xs ++ [x], by simp [hl], fun i hi => ?_⟩
    by_cases hin : i < xs.length
    · rw [List.getElem_append_left hin]; exact hx i hin
    · have : i = n := by simp at hi; omega
      subst this
      simp [hl]
      exact hxp
theorem block_of_cell {w : World} {a : Addr} {v : Value} (h : w.cell? a = some v) : ∃ c e fr, w.heap[a.block]? = some (.cells c e fr) ∧ a.spot = none ∧ c[a.off]? = some v := by
  unfold World.cell? at h
  split at h
  · rename_i c e fr hb
    split at h
    · cases h
    · rename_i hs
      exact ⟨c, e, fr, hb, by simpa using hs, h⟩
  · cases h
theorem flatMap_of_segs {X : Type} (f : X → List Value) (m : Nat) (hf : ∀ x, (f x).length = m) : ∀ (xs : List X) (l : List Value), l.length = xs.length * m →
    (∀ i (h : i < xs.length), (l.drop (i * m)).take m = f xs[i]) → l = xs.flatMap f
  | [], l, hl, _ => by simp at hl; simp [hl]
  | x :: xs, l, hl, h => by
    have h0 := h 0 (by simp)
    simp only [Nat.zero_mul, List.drop_zero, List.getElem_cons_zero] at h0
    have hl' : l.length = m + xs.length * m := by rw [hl, List.length_cons, Nat.add_mul]; omega
    have ih := flatMap_of_segs f m hf xs (l.drop m) (by rw [List.length_drop]; omega) (fun i hi => by
      have := h (i + 1) (by simp; omega)
      simp only [List.getElem_cons_succ] at this
      rw [← this, List.drop_drop]
      congr 2
      rw [Nat.add_mul]; omega)
    rw [List.flatMap_cons, ← h0, ← ih, List.take_append_drop]
section
variable {H : Type} {enc : TypeId × Value → H} {P : Program} {w : World} {spare : Nat → Bool} {held : Bool}
theorem open_list {X : Type} (f : X → List Value) (Ok : X → Prop) (m : Nat) (hm : 0 < m) (hf : ∀ x, (f x).length = m) {t e : TypeId} {v : Value} {d : DataW H} {ps : List MemPlace} (ht : P.underlying t = some (.slice e)) (hC : P.cellsOf e = m)
    (conv : ∀ (fuel : Nat) (cs : List Value) (y : DataW H × List MemPlace), DataW.trod enc P w 0 spare held fuel e cs = some y → ∃ x, cs = f x ∧ Ok x)
    {r : Reach} {b0 : Nat} (hok : Value.okWide P w r b0 t v) (h : DataW.Trod enc P w 0 spare held t v d ps) :
    ∃ (a : Option Addr) (cap : Nat) (xs : List X) (ro : HL), v = .slice a xs.length cap ∧ RoSl m (xs.flatMap f) a xs.length ro ∧ (∀ p ∈ ro, w.heap[p.1]? = some p.2) ∧ (∀ x ∈ xs, Ok x) ∧ xs.length ≤ cap ∧ cap ≤ maxLen := by
  obtain ⟨a, len, cap, rfl⟩ := okWide_slice ht hok
  obtain ⟨fuel, hf'⟩ := h
  rcases open_slice ht hf' with ⟨hcs, _⟩ | ⟨a', len', cap', m', n', D, Pl, hcs, _, hlc, hcm, hmm, _, hel⟩
  · simp only [Value.cells] at hcs
    simp only [List.cons.injEq, Value.slice.injEq, and_true] at hcs
    obtain ⟨rfl, rfl, rfl⟩ := hcs
    exact ⟨none, 0, [], [], rfl, ⟨by simp, .inl ⟨rfl, rfl⟩⟩, fun _ h => (by cases h), fun _ h => (by cases h), Nat.le_refl _, by simp [maxLen]⟩
  · simp only [Value.cells] at hcs
    simp only [List.cons.injEq, Value.slice.injEq, and_true] at hcs
    obtain ⟨rfl, rfl, rfl⟩ := hcs
    have hml : len ≤ m' := by rw [hmm]; split <;> omega
    rw [hC] at hel
    have hel2 : ∀ i, i < len → ∃ x, (∀ j, j < m → w.cell? (a'.add (i * m + j)) = (f x)[j]?) ∧ Ok x := by
      intro i hi
      obtain ⟨cs', h1, h2⟩ := hel i (by omega)
      obtain ⟨x, rfl, hx⟩ := conv _ _ _ h2
      obtain ⟨_, _, h3⟩ := World.cells?_some h1
      refine ⟨x, fun j hj => ?_, hx⟩
      rw [← h3 j hj, Go.Deep.add_add]
    obtain ⟨xs, hxl, hxs⟩ := choose_list _ len hel2
    by_cases h0 : len = 0
    · subst h0
      have : xs = [] := List.eq_nil_of_length_eq_zero hxl
      subst this
      exact ⟨some a', cap, [], [], rfl, ⟨by simp, .inl ⟨rfl, rfl⟩⟩, fun _ h => (by cases h), fun _ h => (by cases h), Nat.zero_le _, hcm⟩
    · subst hxl
      have c0 := (hxs 0 (by omega)).1 0 hm
      simp only [Nat.zero_mul, Nat.zero_add] at c0
      have hlt0 : 0 < (f (xs[0]'(by omega))).length := by rw [hf]; exact hm
      rw [List.getElem?_eq_getElem hlt0] at c0
      obtain ⟨c, e', fr, hb, hsp, hc0⟩ := block_of_cell c0
      have hadd0 : a'.add 0 = a' := by simp [Addr.add]
      rw [hadd0] at hb hsp hc0
      obtain ⟨b, off, sp⟩ := a'
      simp only at hsp hb hc0
      subst hsp
      have hcell : ∀ i (hi : i < xs.length), ∀ j, j < m → c.toList[off + (i * m + j)]? = (f xs[i])[j]? := by
        intro i hi j hj
        have := (hxs i hi).1 j hj
        rw [Go.Sl.Addr.add_none', cell_of_row w b _ c e' fr hb] at this
        rw [← this]; simp
      have hlen : off + xs.length * m ≤ c.toList.length := by
        have h1 := hcell (xs.length - 1) (by omega) (m - 1) (by omega)
        have hfl : m - 1 < (f (xs[xs.length - 1]'(by omega))).length := by rw [hf]; omega
        rw [List.getElem?_eq_getElem hfl] at h1
        have h2 := (List.getElem?_eq_some_iff.1 h1).1
        have h3 : xs.length * m = (xs.length - 1) * m + m := by
          rw [← Nat.succ_mul]; congr 1; omega
        omega
      refine ⟨some ⟨b, off, none⟩, cap, xs, [(b, .cells c e' fr)], rfl, ⟨flatMap_len f m hf xs, .inr ⟨b, off, c.toList, e', fr, rfl, by simp, hlen, ?_⟩⟩, ?_, ?_, hlc, hcm⟩
      · refine flatMap_of_segs f m hf xs _ (by simp at hlen ⊢; omega) (fun i hi => ?_)
        apply List.ext_getElem?
        intro j
        by_cases hj : j < m
        · have h1 : i * m + m ≤ xs.length * m := by rw [← Nat.succ_mul]; exact Nat.mul_le_mul_right m hi
          rw [List.getElem?_take, if_pos hj, List.getElem?_drop, List.getElem?_take, if_pos (by omega), List.getElem?_drop, hcell i hi j hj]
        · rw [List.getElem?_eq_none (by simp; omega), List.getElem?_eq_none (by rw [hf]; omega)]
      · intro p hp
        simp at hp
        subst hp
        exact hb
      · intro x hx
        obtain ⟨i, hi, rfl⟩ := List.getElem_of_mem hx
        exact (hxs i hi).2
end
theorem RoSl.take {α : Type} {f : α → List Value} {m : Nat} (hf : ∀ x, (f x).length = m) {xs : List α} {a : Option Addr} {ro : HL} (h : RoSl m (xs.flatMap f) a xs.length ro) (j : Nat) (hj : j ≤ xs.length) :
    RoSl m ((xs.take j).flatMap f) a j ro := by
  have e : (xs.take j).flatMap f = (xs.flatMap f).take (j * m) := by
    have h1 : xs.flatMap f = (xs.take j).flatMap f ++ (xs.drop j).flatMap f := by rw [← List.flatMap_append, List.take_append_drop]
    have h2 : ((xs.take j).flatMap f).length = j * m := by rw [flatMap_len f m hf, List.length_take]; congr 1; omega
    rw [h1, ← h2, List.take_left]
  refine ⟨by rw [flatMap_len f m hf, List.length_take]; congr 1; omega, ?_⟩
  by_cases h0 : j = 0
  · subst h0
    rcases h.2 with ⟨h1, h2⟩ | ⟨b, off, l, e', fr, h1, h2, h3, h4⟩
    · exact .inl ⟨rfl, h2⟩
    · exact .inr ⟨b, off, l, e', fr, h1, h2, by omega, by simp⟩
  · rcases h.2 with ⟨h1, _⟩ | ⟨b, off, l, e', fr, h1, h2, h3, h4⟩
    · omega
    · have hjm : j * m ≤ xs.length * m := Nat.mul_le_mul_right m hj
      refine .inr ⟨b, off, l, e', fr, h1, h2, by omega, ?_⟩
      rw [e, ← h4, List.take_take]
      congr 1
      omega
end Go.Sl
namespace Go.Sl
open Go
section
variable {P : Program} {n : Nat} {R : HL} {cx : Cx} {k : List Kont} {ρ : Env} {L : List HL}
def SelfEq (P : Program) (l : List Value) (f : Field) : Prop :=
  IsAgg P f.type false ∧ ∃ v, l[f.offset]? = some v ∧ ∀ (d : Nat) (w : World), (Op.equalIn (d + 1) f.type v v).run P w = .ok true w
theorem SelfEq.int {l : List Value} {f : Field} {kk k' : IntKind} {i : Int} (ha : IsAgg P f.type false) (ht : P.underlying f.type = some (.int k')) (h : l[f.offset]? = some (.int kk i)) : SelfEq P l f :=
  ⟨ha, _, h, fun d w => by have := run_equalIn_int (P := P) w d f.type kk k' i i ht; simpa using this⟩
theorem SelfEq.bool {l : List Value} {f : Field} {b : Bool} (ha : IsAgg P f.type false) (ht : P.underlying f.type = some .bool) (h : l[f.offset]? = some (.bool b)) : SelfEq P l f :=
  ⟨ha, _, h, fun d w => by have := run_equalIn_bool' (P := P) w d f.type b b ht; simpa using this⟩
theorem SelfEq.str {l : List Value} {f : Field} {b : ByteArray} (ha : IsAgg P f.type false) (ht : P.underlying f.type = some .string) (h : l[f.offset]? = some (.string b)) : SelfEq P l f :=
  ⟨ha, _, h, fun d w => by have := run_equalIn_string (P := P) w d f.type b b ht; simpa using this⟩
theorem eqFields_self (d : Nat) (l : List Value) (w : World) : ∀ fs : List Field, (∀ f ∈ fs, SelfEq P l f) → (Op.eqFields (d + 1) l.toArray l.toArray fs).run P w = .ok true w
  | [], _ => rfl
  | f :: fs, h => by
    obtain ⟨ha, v, hv, he⟩ := h f (by simp)
    have ih := eqFields_self d l w fs (fun g hg => h g (by simp [hg]))
    have hp : (part f.type l.toArray f.offset).run P w = .ok v w := by simp [part, ha w, hv]
    simp only [Op.eqFields]
    split
    · simp only [Sem.run_bind, hp, Result.andThen_ok, he d w]
      simpa using ih
    · exact ih
theorem equal_self {t : TypeId} {fs : Array Field} {l : List Value} (ht : P.underlying t = some (.struct fs)) (hh : P.stoodInHeld t = false) (h : ∀ f ∈ fs.toList, SelfEq P l f) (d : Nat) (w : World) :
    (Op.equalIn (d + 2) t (.agg l.toArray) (.agg l.toArray)).run P w = .ok true w := by
  have hf : P.fieldsOf t = fs := by simp [Program.fieldsOf, ht]
  rw [run_equalIn_struct (P := P) w (d + 1) t _ _ (by rw [hf]; exact ht) hh, hf]
  exact eqFields_self d l w _ h
theorem OpVal.eqSelf {t t' ty : TypeId} {x y : Operand} {fs : Array Field} {l : List Value} (hx : ev? ρ x = some (.agg l.toArray)) (hy : ev? ρ y = some (.agg l.toArray)) (ht : P.underlying t = some (.struct fs))
    (hh : P.stoodInHeld t = false) (hg : P.eqGuardType P.depth t = false) (h : ∀ f ∈ fs.toList, SelfEq P l f) : OpVal P n R cx (.binOp .eql t x y t') ty ρ L (.bool true) :=
  .eqOf hx hy fun w => by
    rw [Sem.run_bind, run_eqGuard_agg w _ t x y _ _ hg]
    simp only [Result.andThen_ok]
    rw [run_eql_struct, equal_self ht hh h 9998 w]
    rfl
theorem OpVal.neSelf {t t' ty : TypeId} {x y : Operand} {fs : Array Field} {l : List Value} (hx : ev? ρ x = some (.agg l.toArray)) (hy : ev? ρ y = some (.agg l.toArray)) (ht : P.underlying t = some (.struct fs))
    (hh : P.stoodInHeld t = false) (hg : P.eqGuardType P.depth t = false) (h : ∀ f ∈ fs.toList, SelfEq P l f) : OpVal P n R cx (.binOp .neq t x y t') ty ρ L (.bool false) :=
  .eqOf hx hy fun w => by
    rw [Sem.run_bind, run_eqGuard_agg w _ t x y _ _ hg]
    simp only [Result.andThen_ok]
    rw [run_neq_struct, equal_self ht hh h 9998 w]
    rfl
end
end Go.Sl
namespace Go.Proofs.YtfajcpnbhnddbaaGreat
open Go Go.Sl Go.IntWalk
set_option maxHeartbeats 4000000
set_option maxRecDepth 20000
abbrev Io := Int × Int × Int
def io3 (x : Io) : List Value := [.int .i64 x.1, .int .i64 x.2.1, .int .i64 x.2.2]
def ios (l : List Io) : List Value := l.flatMap io3
theorem ios_len (l : List Io) : (ios l).length = l.length * 3 := flatMap_len io3 3 (fun _ => rfl) l
theorem ios_append (a b : List Io) : ios (a ++ b) = ios a ++ ios b := by simp [ios]
theorem ios_one (l : List Io) : allOne (ios l) = true := by
  refine allOne_of fun v hv => ?_
  obtain ⟨x, _, hx⟩ := List.mem_flatMap.1 hv
  simp only [io3, List.mem_cons, List.not_mem_nil, or_false] at hx
  rcases hx with rfl | rfl | rfl <;> rfl
def both (k p : Int) : List Io := [(k, p, 0), (k, p, 1)]
def pages (k : Int) (ps : List Int) : List Io := ps.flatMap (both k)
def planFetch (page : Int) (dirty : Bool) (old : Int) : List Io := (if dirty = true then pages 2 [old] else []) ++ pages 1 [page]
def planFlush (ps : List Int) : List Io := pages 2 ps ++ [(3, 0, 0)]
theorem pages_len (k : Int) (ps : List Int) : (pages k ps).length = 2 * ps.length := by
  induction ps with
  | nil => rfl
  | cons p ps ih => simp only [pages, List.flatMap_cons, List.length_append, List.length_cons] at *; rw [ih]; simp [both]; omega
theorem pages_next (k : Int) (ps : List Int) (i : Nat) (hi : i < ps.length) : pages k (ps.take (i + 1)) = pages k (ps.take i) ++ both k ps[i] := by
  rw [List.take_add_one, List.getElem?_eq_getElem hi]
  simp only [pages, List.flatMap_append, Option.toList_some, List.flatMap_cons, List.flatMap_nil, List.append_nil]
theorem pages_at (k : Int) : ∀ (ps : List Int) (i : Nat) (h : i / 2 < ps.length), (pages k ps)[i]? = some (k, ps[i / 2], ((i % 2 : Nat) : Int))
  | [], i, h => by simp at h
  | p :: ps, 0, h => rfl
  | p :: ps, 1, h => rfl
  | p :: ps, i + 2, h => by
    have e : (i + 2) / 2 = i / 2 + 1 := by omega
    have e2 : (i + 2) % 2 = i % 2 := by omega
    have h' : i / 2 < ps.length := by simp only [List.length_cons] at h; omega
    have ih := pages_at k ps i h'
    have e3 : (pages k (p :: ps))[i + 2]? = (pages k ps)[i]? := rfl
    rw [e3, ih, e2]
    simp [e]
theorem pages_step (k : Int) (ps : List Int) (i : Nat) (h : i / 2 < ps.length) : (pages k ps).take (i + 1) = (pages k ps).take i ++ [(k, ps[i / 2], ((i % 2 : Nat) : Int))] := by
  rw [List.take_add_one, pages_at k ps i h]
  rfl
theorem both_spec (k p : Int) : Ctr Tryz.prog 149 [.int .i64 k, .int .i64 p] [] [] (fun v L' => ∃ a cap H, v = .slice a 2 cap ∧ L' = [H] ∧ Own 3 93 (ios (both k p)) a 2 cap H) := by
  refine Ctr.enter (n := 19) [.tmp 4] [(0, _), (1, _)] Tryz.func149 rfl rfl rfl (lb rfl) Tryz.call149 ⟨rfl, rfl, trivial⟩ ?_
  intro cx fin fin0
  refine aG ?_
  refine W.nilChunk ?_
  refine aLp (fun m ρ1 L1 => ∃ (j : Nat) (a : Option Addr) (cap : Nat) (H : HL), j ≤ 2 ∧ Own 3 93 (ios ((both k p).take j)) a j cap H ∧ m = 2 - j ∧ ρ1 = [(7, .int .i64 (j : Int)), (5, .slice a j cap), (0, .int .i64 k), (1, .int .i64 p)] ∧ L1 = [H]) (o := ⟨0, none, 0, [], by omega, Own.nil 3 _, rfl, rfl, rfl⟩) (h := ?_)
  rintro m ρ1 L1 ⟨j, a, cap, H, hj, hown, rfl, rfl, rfl⟩
  refine aG ?_
  by_cases hlt : j < 2
  · refine aT ?_ (hb := by simp; omega)
    refine aBu (ps := [_, _, _]) ?_
    refine aSl (ps := [_]) ?_
    intro bt
    refine aG ?_
    refine aAp (hown) ?_
    rintro _ _ ⟨_, _, _, rfl, rfl, ho⟩
    refine aG ?_
    refine aV (OpVal.add rfl rfl (i64_in _ (by omega))) ?_
    have e : ios ((both k p).take j) ++ [.int .i64 k, .int .i64 p, .int .i64 (j : Int)] = ios ((both k p).take (j + 1)) := by
      obtain rfl | rfl : j = 0 ∨ j = 1 := by omega
      · rfl
      · rfl
    have ho' : Own 3 93 (ios ((both k p).take j) ++ [.int .i64 k, .int .i64 p, .int .i64 (j : Int)]) _ _ _ _ := ho
    rw [e] at ho'
    refine aR (o := ⟨2 - (j + 1), by omega, j + 1, _, _, _, by omega, ho', rfl, rfl, rfl⟩)
  · obtain rfl : j = 2 := by omega
    refine aF ?_ (hb := by rfl)
    refine W.ret (fin _ _ (FinOk.first 1 (.tmp rfl .nil) rfl ?_))
    exact ⟨_, _, _, rfl, rfl, hown⟩
theorem Loads_spec (p : Int) : Ctr Tryz.prog 142 [.int .i64 p] [] [] (fun v L' => ∃ a cap H, v = .slice a 2 cap ∧ L' = [H] ∧ Own 3 93 (ios (pages 1 [p])) a 2 cap H) := by
  have hb := both_spec 1 p
  have e : both 1 p = pages 1 [p] := rfl
  rw [e] at hb
  refine Ctr.enter (n := 5) [.tmp 2] [(0, _)] Tryz.func142 rfl rfl rfl (lb rfl) Tryz.call142 ⟨rfl, trivial⟩ ?_
  intro cx fin fin0
  refine aG ?_
  refine aC (o := hb) (h := ?_)
  rintro _ _ ⟨a, cap, H, rfl, rfl, ho⟩
  refine aG ?_
  refine W.ret (fin _ _ (FinOk.first 1 (.tmp rfl .nil) rfl ?_))
  exact ⟨_, _, _, rfl, rfl, ho⟩
theorem Stores_spec (ps : List Int) (hn : ps.length ≤ 1000) (a0 : Option Addr) (cap0 : Nat) (ro : HL) (hro : RoSl 1 (ints ps) a0 ps.length ro) :
    Ctr Tryz.prog 141 [.slice a0 ps.length cap0] [] ro (fun v L' => ∃ a cap H, v = .slice a (2 * ps.length) cap ∧ L' = [H] ∧ Own 3 93 (ios (pages 2 ps)) a (2 * ps.length) cap H) := by
  refine Ctr.enter (n := 18) [.tmp 2] [(0, _)] Tryz.func141 rfl rfl rfl (lb rfl) Tryz.call141 ⟨rfl, trivial⟩ ?_
  intro cx fin fin0
  refine aG ?_
  refine W.nilChunk ?_
  refine aLp (fun m ρ1 L1 => ∃ (j : Nat) (a : Option Addr) (cap : Nat) (H : HL), j ≤ ps.length ∧ Own 3 93 (ios (pages 2 (ps.take j))) a (2 * j) cap H ∧ m = ps.length - j ∧ ρ1 = [(8, .int .i64 (j : Int)), (7, .int .i64 (ps.length : Int)), (6, .slice a0 ps.length cap0), (3, .slice a (2 * j) cap)] ∧ L1 = [H]) (o := ⟨0, none, 0, [], by omega, Own.nil 3 _, rfl, rfl, rfl⟩) (h := ?_)
  rintro m ρ1 L1 ⟨j, a, cap, H, hj, hown, rfl, rfl, rfl⟩
  refine aG ?_
  by_cases hlt : j < ps.length
  · refine aT ?_ (hb := by simp; omega)
    rcases hro.2 with ⟨h0, _⟩ | ⟨bx, ox, lx, ex, frx, rfl, rfl, hlx, hcx⟩
    · omega
    have hld := int_at hlx hcx hlt
    have hnx := pages_next 2 ps j hlt
    have hc := both_spec 2 ps[j]
    generalize ps[j] = p at hld hnx hc
    refine aV (OpVal.ixSl tab_ok rfl rfl rfl rfl rfl hlt) ?_
    refine aV (OpVal.load tab_ok rfl (at_ro 0 rfl) hld) ?_
    refine aC (o := hc) (h := ?_)
    rintro _ _ ⟨a2, cap2, H2, rfl, rfl, ho2⟩
    refine aG ?_
    obtain ⟨b2, l2, rfl, rfl, hc2, hl2, ht2⟩ := ho2.some (by decide)
    have hs2 : seg? l2 0 (2 * 3) = some (ios (both 2 p)) := by rw [seg?_of _ _ _ (by omega), List.drop_zero, ht2]
    refine aAp (hown) ?_ (hn := hs2) (h1 := (ios_one _))
    rintro _ _ ⟨_, _, _, rfl, rfl, ho⟩
    refine aG ?_
    refine aV (OpVal.add rfl rfl (i64_in _ (by omega))) ?_
    rw [← ios_append, ← hnx] at ho
    refine aR (o := ⟨ps.length - (j + 1), by omega, j + 1, _, _, _, by omega, ho, rfl, rfl, rfl⟩)
  · obtain rfl : j = ps.length := by omega
    refine aF ?_ (hb := by simp)
    refine W.ret (fin _ _ (FinOk.first 1 (.tmp rfl .nil) rfl ?_))
    rw [List.take_length] at hown
    exact ⟨_, _, _, rfl, rfl, hown⟩
theorem Own.roInts {a : Option Addr} {len cap : Nat} {cs : List Value} {H : HL} {e m : Nat} (h : Own m e cs a len cap H) : RoSl m cs a len H := Own.roSl h
theorem PFetch_spec (page old : Int) (dirty : Bool) : Ctr Tryz.prog 125 [.int .i64 page, .bool dirty, .int .i64 old] [] [] (fun v L' => ∃ a cap H, v = .slice a (planFetch page dirty old).length cap ∧ L' = [H] ∧ Own 3 93 (ios (planFetch page dirty old)) a (planFetch page dirty old).length cap H) := by
  have hL := Loads_spec page
  refine Ctr.enter (n := 16) [.tmp 6] [(0, _), (1, _), (2, _)] Tryz.func125 rfl rfl rfl (lb rfl) Tryz.call125 ⟨rfl, rfl, rfl, trivial⟩ ?_
  intro cx fin fin0
  refine aG ?_
  cases dirty with
  | true =>
    refine aT ?_ (hb := by rfl)
    refine aSl (ps := [_]) ?_
    intro bt
    refine aG ?_
    refine aC (o := Stores_spec [old] (by simp) (some ⟨bt, 0, none⟩) 1 [(bt, .cells #[.int .i64 old] 3 (0, 0))] (Own.roSl (Own.exact (m := 1) (cs := ints [old]) bt rfl))) (h := ?_)
    rintro _ _ ⟨a1, cap1, H1, rfl, rfl, ho1⟩
    change Own 3 _ _ _ 2 _ _ at ho1
    refine aG ?_
    refine aC (o := hL) (h := ?_)
    rintro _ _ ⟨a2, cap2, H2, rfl, rfl, ho2⟩
    refine aG ?_
    obtain ⟨b2, l2, rfl, rfl, hc2, hl2, ht2⟩ := ho2.some (by decide)
    have hs2 : seg? l2 0 (2 * 3) = some (ios (pages 1 [page])) := by rw [seg?_of _ _ _ (by omega), List.drop_zero, ht2]
    refine aAp (ho1) ?_ (hn := hs2) (h1 := (ios_one _))
    rintro _ _ ⟨_, _, _, rfl, rfl, ho⟩
    refine aG ?_
    rw [← ios_append] at ho
    refine W.ret (fin _ _ (FinOk.first 1 (.tmp rfl .nil) rfl ?_))
    exact ⟨_, _, _, rfl, rfl, ho⟩
  | false =>
    refine aF ?_ (hb := by rfl)
    refine aC (o := hL) (h := ?_)
    rintro _ _ ⟨a2, cap2, H2, rfl, rfl, ho2⟩
    refine aG ?_
    refine W.ret (fin _ _ (FinOk.first 1 (.tmp rfl .nil) rfl ?_))
    exact ⟨_, _, _, rfl, rfl, ho2⟩
theorem planFlush_len (ps : List Int) : (planFlush ps).length = 2 * ps.length + 1 := by simp [planFlush, pages_len]
theorem PFlush_spec (ps : List Int) (hn : ps.length ≤ 1000) (a0 : Option Addr) (cap0 : Nat) (ro : HL) (hro : RoSl 1 (ints ps) a0 ps.length ro) :
    Ctr Tryz.prog 131 [.slice a0 ps.length cap0] [] ro (fun v L' => ∃ a cap H, v = .slice a (planFlush ps).length cap ∧ L' = [H] ∧ Own 3 93 (ios (planFlush ps)) a (planFlush ps).length cap H) := by
  have hS := Stores_spec ps hn a0 cap0 ro hro
  rw [planFlush_len]
  refine Ctr.enter (n := 8) [.tmp 2] [(0, _)] Tryz.func131 rfl rfl rfl (lb rfl) Tryz.call131 ⟨rfl, trivial⟩ ?_
  intro cx fin fin0
  refine aG ?_
  refine aC (o := hS) (h := ?_)
  rintro _ _ ⟨a1, cap1, H1, rfl, rfl, ho1⟩
  refine aG ?_
  refine aBu (ps := [_]) ?_
  refine aSl (ps := [_]) ?_
  intro bt
  refine aG ?_
  refine aAp (ho1) ?_
  rintro _ _ ⟨_, _, _, rfl, rfl, ho⟩
  refine aG ?_
  refine W.ret (fin _ _ (FinOk.first 1 (.tmp rfl .nil) rfl ?_))
  refine ⟨_, _, _, rfl, rfl, ?_⟩
  rw [planFlush, ios_append]
  exact ho
end Go.Proofs.YtfajcpnbhnddbaaGreat
