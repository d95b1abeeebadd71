/-
  A region that draws its order and acts: loads of chunks that it leaves alone commute with all, what acts stands in one row, and so one walk in the order of the text serves every order; over any program.
-/
import Derived.Test.YtpimbaphenignaaSr
namespace Go.Sl
set_option linter.unusedVariables false
open Go
section
variable {P : Program} {R : HL} {cx : Cx} {ops : Array Oper} {E F : Nat → Bool} {Kf : Act → List HL → Prop}

def acts (P : Program) (o : Oper) (a : Act) (w : World) (N : Act → World → Prop) : Prop :=
  (∃ v w', (execOp a.eval o).run P w = .ok (.value v) w' ∧ N (a.put o.dst v) w') ∨ (∃ w', (execOp a.eval o).run P w = .ok .skip w' ∧ N (a.put o.dst undef) w') ∨
  ∃ f args w', (execOp a.eval o).run P w = .ok (.enter f args) w' ∧ Calls P f args w' fun e w'' => ∃ v, e = .returned v ∧ N (a.put o.dst v) w''
theorem acts_of_same {o : Oper} {a a' : Act} {w : World} {N N' : Act → World → Prop} (he : execOp a'.eval o = execOp a.eval o) (h : ∀ v w', N (a.put o.dst v) w' → N' (a'.put o.dst v) w') (hh : acts P o a w N) : acts P o a' w N' := by
  unfold acts at *
  rw [he]
  rcases hh with ⟨v, w', hr, hn⟩ | ⟨w', hr, hn⟩ | ⟨f, args, w', hr, hn⟩
  · exact .inl ⟨v, w', hr, h _ _ hn⟩
  · exact .inr (.inl ⟨w', hr, h _ _ hn⟩)
  · exact .inr (.inr ⟨f, args, w', hr, hn.mono fun e w'' ⟨v, he, hn⟩ => ⟨v, he, h _ _ hn⟩⟩)
theorem acts_mono {o : Oper} {a : Act} {w : World} {N N' : Act → World → Prop} (h : ∀ v w, N (a.put o.dst v) w → N' (a.put o.dst v) w) (hh : acts P o a w N) : acts P o a w N' := acts_of_same rfl h hh
theorem acts_some {o : Oper} {a : Act} {w : World} {N : Act → World → Prop} (hh : acts P o a w N) : ∃ v w', N (a.put o.dst v) w' := by
  rcases hh with ⟨v, w', hr, hn⟩ | ⟨w', hr, hn⟩ | ⟨f, args, w', hr, hn⟩
  · exact ⟨_, _, hn⟩
  · exact ⟨_, _, hn⟩
  · obtain ⟨e, w'', fr, ⟨v, _, hn⟩, _⟩ := hn []
    exact ⟨_, _, hn⟩
theorem acts_wp {o : Oper} {a : Act} {w : World} {N : Act → World → Prop} {Q : Exit → Act → World → Prop} (hh : acts P o a w N) : o.wp P a w N Q := by
  unfold Oper.wp
  rcases hh with ⟨v, w', hr, hn⟩ | ⟨w', hr, hn⟩ | ⟨f, args, w', hr, hn⟩
  · rw [hr]; exact hn
  · rw [hr]; exact hn
  · rw [hr]; exact hn.mono fun e w'' ⟨v, he, hn⟩ => by subst he; exact hn

/-- What a step leaves as it is: all blocks but those of Y; what it gives is of Y, or new. -/
def Lf (Y Y' : List HL) (w w' : World) : Prop := w.heap.size ≤ w'.heap.size ∧ (∀ b, b < w.heap.size → b ∉ ids Y.flatten → w'.heap[b]? = w.heap[b]?) ∧ ∀ b ∈ ids Y'.flatten, b ∈ ids Y.flatten ∨ w.heap.size ≤ b
/-- An operation yields 'v' and leaves a world of which N speaks; a call too. -/
def qacts (P : Program) (o : Oper) (a : Act) (w : World) (v : Value) (N : World → Prop) : Prop :=
  (∃ w', (execOp a.eval o).run P w = .ok (.value v) w' ∧ N w') ∨ ∃ f args w', (execOp a.eval o).run P w = .ok (.enter f args) w' ∧ P.inits.idxOf? f = none ∧ Calls P f args w' fun e w'' => e = .returned v ∧ N w''
theorem qacts_wp {o : Oper} {a : Act} {w : World} {v : Value} {N : World → Prop} {K : Act → World → Prop} {Q : Exit → Act → World → Prop} (hh : qacts P o a w v N) (h : ∀ w', N w' → K (a.put o.dst v) w') : o.wp P a w K Q := by
  unfold Oper.wp
  rcases hh with ⟨w', hr, hn⟩ | ⟨f, args, w', hr, _, hn⟩
  · rw [hr]; exact h _ hn
  · rw [hr]; exact hn.mono fun e w'' ⟨he, hn⟩ => by subst he; exact h _ hn
theorem qacts_agree {o : Oper} {a : Act} {w : World} {v v' : Value} {N N' : World → Prop} (h : qacts P o a w v N) (h' : qacts P o a w v' N') : v = v' := by
  rcases h with ⟨w1, hr, _⟩ | ⟨f, args, w1, hr, hi, hn⟩ <;> rcases h' with ⟨w2, hr', _⟩ | ⟨f', args', w2, hr', _, hn'⟩
  · rw [hr] at hr'; cases hr'; rfl
  · rw [hr] at hr'; cases hr'
  · rw [hr] at hr'; cases hr'
  · rw [hr] at hr'
    cases hr'
    have q1 : Calls P f args w1 fun | .returned u, _ => u = v | _, _ => False := hn.mono fun e w'' ⟨he, _⟩ => by subst he; rfl
    have q2 : Calls P f args w1 fun | .returned u, _ => u = v' | _, _ => False := hn'.mono fun e w'' ⟨he, _⟩ => by subst he; rfl
    obtain ⟨n, u, w3, e1, r1⟩ := q1.done hi
    obtain ⟨m, u', w4, e2, r2⟩ := q2.done hi
    have a1 := runN_ended e1 m
    have a2 := runN_ended e2 n
    rw [Nat.add_comm, a1] at a2
    injection a2 with ho hw
    injection ho with hv
    exact r1.symm.trans (hv.trans r2)
/-- A quiet operation yields 'v' in whatever world that fits, and leaves what is there as it is. -/
def QVal (P : Program) (R : HL) (cx : Cx) (ops : Array Oper) (o : Oper) (v : Value) (a : Act) : Prop :=
  (Region.wanted o (yielded ops a.tmps) = true ∧ ∀ Y w, St cx.w0 cx.S0 R Y w → qacts P o a w v fun w' => St cx.w0 cx.S0 R Y w' ∧ Lf Y Y w w') ∨ (Region.wanted o (yielded ops a.tmps) = false ∧ v = undef)
theorem Lf.rfl' {Y : List HL} {w : World} : Lf Y Y w w := ⟨Nat.le_refl _, fun _ _ _ => rfl, fun _ h => .inl h⟩
theorem QVal.of_same {o : Oper} {v : Value} {a a' : Act} (h : QVal P R cx ops o v a) (he : execOp a'.eval o = execOp a.eval o) (hw : Region.wanted o (yielded ops a'.tmps) = Region.wanted o (yielded ops a.tmps)) :
    QVal P R cx ops o v a' := by unfold QVal qacts at *; rw [he, hw]; exact h
theorem QVal.unique {o : Oper} {v v' : Value} {a : Act} (h : QVal P R cx ops o v a) (h' : QVal P R cx ops o v' a) {Y : List HL} {w : World} (hs : St cx.w0 cx.S0 R Y w) : v = v' := by
  rcases h with ⟨h1, h2⟩ | ⟨h1, h2⟩ <;> rcases h' with ⟨h3, h4⟩ | ⟨h3, h4⟩
  · exact qacts_agree (h2 Y w hs) (h4 Y w hs)
  · rw [h1] at h3; cases h3
  · rw [h1] at h3; cases h3
  · rw [h2, h4]

def eOp (P : Program) (R : HL) (cx : Cx) (ops : Array Oper) (eff : Bool) (o : Oper) (K : Act → List HL → Prop) (a : Act) (Y : List HL) : Prop :=
  match eff with
  | false => ∃ v, QVal P R cx ops o v a ∧ K (a.put o.dst v) Y
  | true => (Region.wanted o (yielded ops a.tmps) = true ∧ ∀ w, St cx.w0 cx.S0 R Y w → acts P o a w fun a' w' => ∃ Y', (St cx.w0 cx.S0 R Y' w' ∧ Lf Y Y' w w') ∧ K a' Y') ∨
      (Region.wanted o (yielded ops a.tmps) = false ∧ K (a.put o.dst undef) Y)
/-- The operations at these places, one behind the other; those marked in F (new blocks that nothing waits for) are left out. -/
def SWr (P : Program) (R : HL) (cx : Cx) (ops : Array Oper) (E F : Nat → Bool) (Kf : Act → List HL → Prop) : List Nat → Act → List HL → Prop
  | [] => Kf
  | i :: r => fun a Y => match ops[i]? with
    | none => SWr P R cx ops E F Kf r a Y
    | some o => if F i = true then SWr P R cx ops E F Kf r a Y else eOp P R cx ops (E i) o (SWr P R cx ops E F Kf r) a Y

variable (hsel : ∀ (j : Nat) (o : Oper) cs b, ops[j]? = some o → o.op ≠ .select cs b)
include hsel
/-- A quiet operation may be taken ahead of those that are apart from it. -/
theorem extQ {i : Nat} {oi : Oper} (hi : ops[i]? = some oi) (hF : F i = false) (hE : E i = false) : ∀ (A B : List Nat) (a : Act) (Y : List HL) (w : World), (∀ j ∈ A, F j = false → ∀ oj, ops[j]? = some oj → oj.apart ops oi = true) →
    St cx.w0 cx.S0 R Y w → SWr P R cx ops E F Kf (A ++ i :: B) a Y → ∃ v, QVal P R cx ops oi v a ∧ SWr P R cx ops E F Kf (A ++ B) (a.put oi.dst v) Y
  | [], B, a, Y, w, _, _, h => by
    simp only [List.nil_append, SWr, hi, hE, hF, Bool.false_eq_true, if_false, eOp] at h
    exact h
  | j :: A, B, a, Y, w, hap, hs, h => by
    simp only [List.cons_append, SWr] at h ⊢
    cases hj : ops[j]? with
    | none =>
      simp only [hj] at h ⊢
      exact extQ hi hF hE A B a Y w (fun k hk => hap k (by simp [hk])) hs h
    | some oj =>
      simp only [hj] at h ⊢
      have hap' : ∀ k ∈ A, F k = false → ∀ ok, ops[k]? = some ok → ok.apart ops oi = true := fun k hk => hap k (by simp [hk])
      cases hFj : F j with
      | true =>
        simp only [hFj, if_true] at h ⊢
        exact extQ hi hF hE A B a Y w hap' hs h
      | false =>
      simp only [hFj, Bool.false_eq_true, if_false] at h ⊢
      obtain ⟨p1, p2, p3⟩ := Oper.apart_spec (hap j (by simp) hFj oj hj)
      have down : ∀ u v, QVal P R cx ops oi v (a.put oj.dst u) → QVal P R cx ops oi v a := fun u v hq =>
        hq.of_same (execOp_put oi (fun cs b => hsel i oi cs b hi) a oj.dst u p1).symm (wanted_put oi a oj.dst u p1).symm
      have ej : ∀ v, execOp (a.put oi.dst v).eval oj = execOp a.eval oj := fun v => execOp_put oj (fun cs b => hsel j oj cs b hj) a oi.dst v p3
      have wj : ∀ v, Region.wanted oj (yielded ops (a.put oi.dst v).tmps) = Region.wanted oj (yielded ops a.tmps) := fun v => wanted_put oj a oi.dst v p3
      have pc : ∀ u v, (a.put oj.dst u).put oi.dst v = (a.put oi.dst v).put oj.dst u := fun u v => Act.put_comm a u v p2
      cases hEj : E j with
      | false =>
        simp only [hEj, eOp] at h ⊢
        obtain ⟨u, hqu, hK⟩ := h
        obtain ⟨v, hqv, hS⟩ := extQ hi hF hE A B _ Y w hap' hs hK
        exact ⟨v, down u v hqv, u, hqu.of_same (ej v) (wj v), by rw [← pc]; exact hS⟩
      | true =>
        simp only [hEj, eOp] at h ⊢
        rcases h with ⟨hw, hact⟩ | ⟨hw, hK⟩
        · obtain ⟨u, w', Y', hs', hK⟩ := acts_some (hact w hs)
          obtain ⟨v, hqv, _⟩ := extQ hi hF hE A B _ Y' w' hap' hs'.1 hK
          have hqa := down u v hqv
          refine ⟨v, hqa, .inl ⟨by rw [wj]; exact hw, fun w1 hs1 => ?_⟩⟩
          refine acts_of_same (ej v) ?_ (hact w1 hs1)
          rintro u1 w1' ⟨Y1, hs1', hK1⟩
          obtain ⟨v1, hqv1, hS1⟩ := extQ hi hF hE A B _ Y1 w1' hap' hs1'.1 hK1
          have : v1 = v := (down u1 v1 hqv1).unique hqa hs
          subst this
          exact ⟨Y1, hs1', by rw [← pc]; exact hS1⟩
        · obtain ⟨v, hqv, hS⟩ := extQ hi hF hE A B _ Y w hap' hs hK
          exact ⟨v, down undef v hqv, .inr ⟨by rw [wj]; exact hw, by rw [← pc]; exact hS⟩⟩
/-- What acts may be taken ahead of quiet ones that are apart from it. -/
theorem extE {i : Nat} {oi : Oper} (hi : ops[i]? = some oi) (hF : F i = false) (hE : E i = true) : ∀ (A B : List Nat) (a : Act) (Y : List HL), (∀ j ∈ A, F j = false → E j = false ∧ ∀ oj, ops[j]? = some oj → oj.apart ops oi = true) →
    SWr P R cx ops E F Kf (A ++ i :: B) a Y → eOp P R cx ops true oi (SWr P R cx ops E F Kf (A ++ B)) a Y
  | [], B, a, Y, _, h => by
    simp only [List.nil_append, SWr, hi, hE, hF, Bool.false_eq_true, if_false] at h
    exact h
  | j :: A, B, a, Y, hap, h => by
    simp only [List.cons_append, SWr] at h ⊢
    cases hj : ops[j]? with
    | none =>
      simp only [hj] at h ⊢
      exact extE hi hF hE A B a Y (fun k hk => hap k (by simp [hk])) h
    | some oj =>
      simp only [hj] at h ⊢
      cases hFj : F j with
      | true =>
        simp only [hFj, if_true] at h ⊢
        exact extE hi hF hE A B a Y (fun k hk => hap k (by simp [hk])) h
      | false =>
      simp only [hFj, Bool.false_eq_true, if_false] at h ⊢
      obtain ⟨hEj, hapj⟩ := hap j (by simp) hFj
      obtain ⟨p1, p2, p3⟩ := Oper.apart_spec (hapj oj hj)
      simp only [hEj, eOp] at h ⊢
      obtain ⟨u, hqu, hK⟩ := h
      have ih := extE hi hF hE A B _ Y (fun k hk => hap k (by simp [hk])) hK
      have ei : execOp (a.put oj.dst u).eval oi = execOp a.eval oi := execOp_put oi (fun cs b => hsel i oi cs b hi) a oj.dst u p1
      have wi : Region.wanted oi (yielded ops (a.put oj.dst u).tmps) = Region.wanted oi (yielded ops a.tmps) := wanted_put oi a oj.dst u p1
      have qj : ∀ v, QVal P R cx ops oj u (a.put oi.dst v) := fun v => hqu.of_same (execOp_put oj (fun cs b => hsel j oj cs b hj) a oi.dst v p3) (wanted_put oj a oi.dst v p3)
      have pc : ∀ v, (a.put oj.dst u).put oi.dst v = (a.put oi.dst v).put oj.dst u := fun v => Act.put_comm a u v p2
      simp only [eOp] at ih
      rcases ih with ⟨hw, hact⟩ | ⟨hw, hS⟩
      · refine .inl ⟨by rw [← wi]; exact hw, fun w hs => ?_⟩
        refine acts_of_same ei.symm ?_ (hact w hs)
        rintro v w' ⟨Y', hs', hS⟩
        exact ⟨Y', hs', u, qj v, by rw [← pc]; exact hS⟩
      · exact .inr ⟨by rw [← wi]; exact hw, u, qj undef, by rw [← pc]; exact hS⟩
omit hsel

/-! ### Which operations wait for which -/
def maskOf (acc : List Nat) (o : Oper) : Nat := o.after.toList.foldl (fun s e => if Region.binds .any e then s ||| (2 ^ e.on ||| acc.getD e.on 0) else s) 0
def masks : List Oper → List Nat → List Nat
  | [], acc => acc
  | o :: l, acc => masks l (acc ++ [maskOf acc o])
theorem foldl_mask (acc : List Nat) (j : Nat) : ∀ (es : List Edge) (s : Nat), (es.foldl (fun s e => if Region.binds .any e then s ||| (2 ^ e.on ||| acc.getD e.on 0) else s) s).testBit j = true →
    s.testBit j = true ∨ ∃ e ∈ es, Region.binds .any e = true ∧ (e.on = j ∨ (acc.getD e.on 0).testBit j = true)
  | [], s, h => .inl h
  | e :: es, s, h => by
    simp only [List.foldl_cons] at h
    rcases foldl_mask acc j es _ h with h1 | ⟨e', he', h1⟩
    · split at h1
      · rename_i hb
        simp only [Nat.testBit_or, Bool.or_eq_true, Nat.testBit_two_pow, decide_eq_true_eq] at h1
        rcases h1 with h1 | h1 | h1
        · exact .inl h1
        · exact .inr ⟨e, by simp, hb, .inl h1⟩
        · exact .inr ⟨e, by simp, hb, .inr h1⟩
      · exact .inl h1
    · exact .inr ⟨e', by simp [he'], h1⟩
theorem masks_get : ∀ (l : List Oper) (acc : List Nat) (i : Nat) , i < acc.length → (masks l acc)[i]? = acc[i]?
  | [], _, _, _ => rfl
  | o :: l, acc, i, hi => by rw [masks, masks_get l _ i (by simp; omega), List.getElem?_append_left hi]
theorem masks_at : ∀ (l : List Oper) (acc : List Nat) (i : Nat) (o : Oper), l[i]? = some o → ∃ acc' : List Nat, (masks l acc)[acc.length + i]? = some (maskOf acc' o) ∧ ∀ k, k < acc.length + i → acc'[k]? = (masks l acc)[k]? 
  | [], _, _, _, h => by simp at h
  | o' :: l, acc, 0, o, h => by
    simp at h
    subst h
    refine ⟨acc, ?_, fun k hk => ?_⟩
    · rw [masks, masks_get _ _ _ (by simp)]; simp
    · rw [masks, masks_get _ _ _ (by simp at hk ⊢; omega), List.getElem?_append_left (by omega)]
  | o' :: l, acc, i + 1, o, h => by
    obtain ⟨acc', h1, h2⟩ := masks_at l (acc ++ [maskOf acc o']) i o (by simpa using h)
    refine ⟨acc', ?_, fun k hk => ?_⟩
    · rw [masks, ← h1]; congr 1; simp; omega
    · rw [masks]; exact h2 k (by simp; omega)
/-- Every edge leads back. -/
def low (ops : Array Oper) : Bool := (List.range ops.size).all fun i => match ops[i]? with | none => true | some o => o.after.all fun e => !Region.binds .any e || decide (e.on < i)
def waits (ops : Array Oper) (i j : Nat) : Bool := ((masks ops.toList []).getD i 0).testBit j
theorem waits_listed {listed : Array Bool} (hlow : low ops = true) (hdown : ∀ i o, ops[i]? = some o → listed.getD i true = true → ∀ e ∈ o.after, Region.binds .any e = true → listed.getD e.on false = true) :
    ∀ (i j : Nat) (o : Oper), ops[i]? = some o → (∀ e ∈ o.after, Region.binds .any e = true → listed.getD e.on false = true) → waits ops i j = true → listed.getD j false = true := by
  intro i
  induction i using Nat.strongRecOn with
  | _ i ih =>
    intro j o ho hdeps hw
    obtain ⟨acc', h1, h2⟩ := masks_at ops.toList [] i o (by simpa using ho)
    simp only [List.length_nil, Nat.zero_add] at h1 h2
    unfold waits at hw
    rw [List.getD_eq_getElem?_getD, h1] at hw
    simp only [Option.getD_some, maskOf] at hw
    rcases foldl_mask acc' j _ _ hw with h3 | ⟨e, he, hb, h3⟩
    · simp at h3
    · have hem : e ∈ o.after := by simpa using he
      have hl := hdeps e hem hb
      rcases h3 with rfl | h3
      · exact hl
      · have hlt : e.on < i := by
          have := List.all_eq_true.1 hlow i (by simp; exact (Array.getElem?_eq_some_iff.1 ho).1)
          simp only [ho] at this
          have := Array.all_eq_true_iff_forall_mem.1 this e hem
          simpa [hb] using this
        have hon : e.on < ops.size := by have := (Array.getElem?_eq_some_iff.1 ho).1; omega
        have ho2 : ops[e.on]? = some ops[e.on] := Array.getElem?_eq_getElem hon
        have hl2 : listed.getD e.on true = true := by
          simp only [Array.getD_eq_getD_getElem?] at hl ⊢
          cases hx : listed[e.on]? with
          | none => simp
          | some b => rw [hx] at hl; simpa using hl
        refine ih e.on hlt j _ ho2 (hdown e.on _ ho2 hl2) ?_
        unfold waits
        rw [List.getD_eq_getElem?_getD, ← h2 e.on hlt, ← List.getD_eq_getElem?_getD]
        exact h3

/-- The head's operations: any two of them wait, or are apart and do not both act; all behind the head wait for it, and stand in one row. -/
def drawB (ops : Array Oper) (E : Nat → Bool) (N : Nat) : Bool :=
  low ops && Region.noSelect ops && decide (N ≤ ops.size) &&
  ((List.range N).all fun i => (List.range i).all fun j => waits ops i j || (match ops[j]?, ops[i]? with | some oj, some oi => oj.apart ops oi && !(E i && E j) | _, _ => false)) &&
  ((List.range ops.size).all fun i => decide (i < N) || (List.range N).all fun j => waits ops i j) &&
  Region.seqB .any ops (ops.size - N) N (((List.replicate N true) ++ (List.replicate (ops.size - N) false)).toArray)
structure Good (ops : Array Oper) (N : Nat) (rem : List Nat) (listed : Array Bool) : Prop where
  sz : listed.size = ops.size
  sorted : rem.Pairwise (· < ·)
  lt : ∀ i ∈ rem, i < N
  un : ∀ i, i < N → (listed.getD i true = false ↔ i ∈ rem)
  tl : ∀ i, N ≤ i → i < ops.size → listed.getD i true = false
  down : ∀ i o, ops[i]? = some o → listed.getD i true = true → ∀ e ∈ o.after, Region.binds .any e = true → listed.getD e.on false = true

theorem getD_tf {listed : Array Bool} {i : Nat} (hi : i < listed.size) (b : Bool) : listed.getD i b = listed[i] := by simp [Array.getD, hi]
/-! ### New blocks that nothing waits for -/
/-- What an operation of the head is: quiet or acting (b), or a new block that nothing in the head waits for (f). -/
inductive Kd | b (e : Bool) | f
def Kd.act : Kd → Bool
  | .b e => e
  | .f => false
def Kd.fl : Kd → Bool
  | .b _ => false
  | .f => true
def putO (a : Act) : List (Nat × Obj) → (Nat → Option Nat) → Act
  | [], _ => a
  | (d, _) :: r, β => match β d with
    | some b => (putO a r β).put (some d) (.pointer (some ⟨b, 0, none⟩))
    | none => putO a r β
def zO : List (Nat × Obj) → (Nat → Option Nat) → HL
  | [], _ => []
  | (d, o) :: r, β => match β d with
    | some b => (b, o) :: zO r β
    | none => zO r β
def putT (a : Act) : List (Nat × Obj) → (Nat → Nat) → Act
  | [], _ => a
  | (d, _) :: r, β => (putT a r β).put (some d) (.pointer (some ⟨β d, 0, none⟩))
def zT : List (Nat × Obj) → (Nat → Nat) → HL
  | [], _ => []
  | (d, o) :: r, β => (β d, o) :: zT r β
theorem putO_exec {o : Oper} (ho : ∀ cs b, o.op ≠ .select cs b) {a : Act} {β : Nat → Option Nat} : ∀ {fl : List (Nat × Obj)}, (∀ q ∈ fl, q.1 ∉ o.looksAt ops) → execOp (putO a fl β).eval o = execOp a.eval o
  | [], _ => rfl
  | (d, _) :: r, h => by
    have ih := putO_exec ho (a := a) (β := β) (fl := r) (fun q hq => h q (by simp [hq]))
    simp only [putO]
    split
    · rw [execOp_put (ops := ops) o ho _ (some d) _ (fun d' hd => by cases hd; exact h _ List.mem_cons_self), ih]
    · exact ih
theorem putO_wanted {o : Oper} {a : Act} {β : Nat → Option Nat} : ∀ {fl : List (Nat × Obj)}, (∀ q ∈ fl, q.1 ∉ o.looksAt ops) → Region.wanted o (yielded ops (putO a fl β).tmps) = Region.wanted o (yielded ops a.tmps)
  | [], _ => rfl
  | (d, _) :: r, h => by
    have ih := putO_wanted (o := o) (a := a) (β := β) (fl := r) (fun q hq => h q (by simp [hq]))
    simp only [putO]
    split
    · rw [wanted_put o _ (some d) _ (fun d' hd => by cases hd; exact h _ List.mem_cons_self), ih]
    · exact ih
theorem putO_put {a : Act} {β : Nat → Option Nat} {dst : Option Nat} {v : Value} : ∀ {fl : List (Nat × Obj)}, (∀ q ∈ fl, dst ≠ some q.1) → (putO a fl β).put dst v = putO (a.put dst v) fl β
  | [], _ => rfl
  | (d, _) :: r, h => by
    have ih := putO_put (a := a) (β := β) (dst := dst) (v := v) (fl := r) (fun q hq => h q (by simp [hq]))
    simp only [putO]
    split
    · rw [Act.put_comm _ _ _ (fun d' hd => by cases hd; exact h _ List.mem_cons_self), ih]
    · exact ih
theorem putO_same {a : Act} {β β' : Nat → Option Nat} : ∀ {fl : List (Nat × Obj)}, (∀ q ∈ fl, β q.1 = β' q.1) → putO a fl β = putO a fl β' ∧ zO fl β = zO fl β'
  | [], _ => ⟨rfl, rfl⟩
  | (d, o) :: r, h => by
    have ih := putO_same (a := a) (β := β) (β' := β') (fl := r) (fun q hq => h q (by simp [hq]))
    have h0 : β d = β' d := h (d, o) (by simp)
    simp only [putO, zO, h0, ih.1, ih.2, and_self]
def setB (β : Nat → Option Nat) (d b : Nat) : Nat → Option Nat := fun k => if k = d then some b else β k
theorem putO_new {a : Act} {β : Nat → Option Nat} {d b : Nat} {o : Obj} : ∀ {fl : List (Nat × Obj)}, (fl.map (·.1)).Nodup → (d, o) ∈ fl → β d = none →
    (putO a fl β).put (some d) (.pointer (some ⟨b, 0, none⟩)) = putO a fl (setB β d b) ∧ (zO fl (setB β d b)).Perm ((b, o) :: zO fl β)
  | [], _, h, _ => by cases h
  | (d', o') :: r, hn, hm, hb => by
    simp only [List.map_cons, List.nodup_cons] at hn
    by_cases hd : d' = d
    · subst hd
      have hr : ∀ q ∈ r, β q.1 = setB β d' b q.1 := fun q hq => by
        unfold setB
        rw [if_neg]
        rintro rfl
        exact hn.1 (List.mem_map_of_mem (f := (·.1)) hq)
      have ho : o' = o := by
        rcases List.mem_cons.1 hm with h | h
        · cases h; rfl
        · exact absurd (List.mem_map_of_mem (f := (·.1)) h) hn.1
      have e := putO_same (a := a) hr
      have e1 : setB β d' b d' = some b := by simp [setB]
      simp only [putO, zO, hb, e1, ← e.1, ← e.2, ho]
      exact ⟨trivial, List.Perm.refl _⟩
    · have hm' : (d, o) ∈ r := by
        rcases List.mem_cons.1 hm with h | h
        · cases h; exact absurd rfl hd
        · exact h
      have ih := putO_new (a := a) (b := b) hn.2 hm' hb
      have e1 : setB β d b d' = β d' := by simp [setB, hd]
      simp only [putO, zO, e1]
      split
      · rw [← ih.1]
        refine ⟨Act.put_comm _ _ _ (fun d2 h2 => by cases h2; intro h3; cases h3; exact hd rfl), ?_⟩
        exact (List.Perm.cons _ ih.2).trans (List.Perm.swap _ _ _)
      · exact ih
theorem putO_all {a : Act} {β : Nat → Option Nat} : ∀ {fl : List (Nat × Obj)}, (∀ q ∈ fl, β q.1 ≠ none) → putO a fl β = putT a fl (fun d => (β d).getD 0) ∧ zO fl β = zT fl (fun d => (β d).getD 0)
  | [], _ => ⟨rfl, rfl⟩
  | (d, o) :: r, h => by
    have ih := putO_all (a := a) (β := β) (fl := r) (fun q hq => h q (by simp [hq]))
    obtain ⟨b, hb⟩ := Option.ne_none_iff_exists'.1 (h (d, o) (by simp))
    simp only [putO, zO, putT, zT, hb, ih.1, ih.2, Option.getD_some, and_self]
theorem putO_none {a : Act} : ∀ {fl : List (Nat × Obj)}, putO a fl (fun _ => none) = a ∧ zO fl (fun _ => none) = []
  | [] => ⟨rfl, rfl⟩
  | (d, o) :: r => by have ih := putO_none (a := a) (fl := r); simp only [putO, zO, ih.1, ih.2, and_self]
theorem St.z {w0 w : World} {S0 : List Nat} {Z : HL} {Y : List HL} (hs : St w0 S0 R (Z :: Y) w) : St w0 S0 R Y w := hs.perm (M := Y) (X := Z) (by simp only [List.flatten_cons]; exact List.perm_append_comm)
theorem St.lf {w0 w w' : World} {S0 : List Nat} {Z : HL} {Y Y' : List HL} (hs : St w0 S0 R (Z :: Y) w) (h' : St w0 S0 R Y' w') (hl : Lf Y Y' w w') : St w0 S0 R (Z :: Y') w' := by
  have hnd : (ids Z ++ ids Y.flatten).Nodup := by have := hs.nd; simpa [ids] using this
  obtain ⟨n1, n2, n3⟩ := List.nodup_append.1 hnd
  have hz : ∀ p ∈ Z, p.1 < w.heap.size ∧ p.1 ∉ ids Y.flatten ∧ w.heap[p.1]? = some p.2 := by
    intro p hp
    have h1 := hs.has p (by simp [hp])
    exact ⟨(Array.getElem?_eq_some_iff.1 h1).1, fun hm => n3 _ (List.mem_map_of_mem (f := (·.1)) hp) _ hm rfl, h1⟩
  refine ⟨?_, ?_, h'.fr, ?_, h'.sz, h'.ro, h'.env⟩
  · intro p hp
    simp only [List.flatten_cons, List.mem_append] at hp
    rcases hp with hp | hp
    · obtain ⟨h1, h2, h3⟩ := hz p hp
      rw [hl.2.1 _ h1 h2]; exact h3
    · exact h'.has p hp
  · simp only [List.flatten_cons, ids, List.map_append]
    refine List.nodup_append.2 ⟨n1, h'.nd, fun x hx y hy e => ?_⟩
    subst e
    obtain ⟨p, hp, rfl⟩ := List.mem_map.1 hx
    obtain ⟨h1, h2, -⟩ := hz p hp
    rcases hl.2.2 _ hy with h | h
    · exact h2 h
    · omega
  · intro b hb
    simp only [List.flatten_cons, ids, List.map_append, List.mem_append] at hb
    rcases hb with hb | hb
    · exact hs.own b (by simp [ids, hb])
    · exact h'.own b hb

/-- Which operation of the head is new: its place, and that nothing of the head is bound to it. -/
structure FlOk (P : Program) (ops : Array Oper) (F : Nat → Bool) (N : Nat) (fl : List (Nat × Obj)) : Prop where
  nd : (fl.map (·.1)).Nodup
  new : ∀ i, i < N → F i = true → ∃ oi d o, ops[i]? = some oi ∧ oi.dst = some d ∧ oi.guard = none ∧ (d, o) ∈ fl ∧ ∀ (a : Act) (w : World), ∃ m, (execOp a.eval oi).run P w = .ok (.value (.pointer (some ⟨w.heap.size, 0, none⟩))) ({ w with drawn := m }.alloc o)
  apart : ∀ i, i < N → F i = false → ∀ oi, ops[i]? = some oi → ∀ q ∈ fl, q.1 ∉ oi.looksAt ops ∧ oi.dst ≠ some q.1
  inj : ∀ i j, i < N → j < N → F i = true → F j = true → ∀ oi oj, ops[i]? = some oi → ops[j]? = some oj → oi.dst = oj.dst → i = j
  all : ∀ q ∈ fl, ∃ i, i < N ∧ F i = true ∧ ∃ oi, ops[i]? = some oi ∧ oi.dst = some q.1
theorem any_of_swr {N : Nat} {Q : Exit → Act → World → Prop} {fl : List (Nat × Obj)} (hfl : FlOk P ops F N fl) (hB : drawB ops E N = true)
    (hK : ∀ a Y β w, Kf a Y → St cx.w0 cx.S0 R (zT fl β :: Y) w → wpList P ops Q (ops.toList.drop N) (putT a fl β) w) : ∀ (m : Nat) (rem : List Nat) (listed : Array Bool) (a : Act) (Y : List HL) (β : Nat → Option Nat) (w : World), rem.length = m → Good ops N rem listed →
      (∀ i, i < N → F i = true → ∀ oi d, ops[i]? = some oi → oi.dst = some d → (i ∈ rem ↔ β d = none)) →
      St cx.w0 cx.S0 R (zO fl β :: Y) w → SWr P R cx ops E F Kf rem a Y → wpAny P .any ops Q (m + (ops.size - N)) listed (putO a fl β) w := by
  simp only [drawB, Bool.and_eq_true, decide_eq_true_eq] at hB
  obtain ⟨⟨⟨⟨⟨hlow, hns⟩, hN⟩, hpair⟩, htail⟩, hseq⟩ := hB
  have hsel := Region.noSelect_spec hns
  intro m
  induction m with
  | zero =>
    intro rem listed a Y β w hm hg hβ hs h
    have hr : rem = [] := List.eq_nil_of_length_eq_zero hm
    subst hr
    have hl : listed = ((List.replicate N true) ++ (List.replicate (ops.size - N) false)).toArray := by
      apply Array.ext
      · simp [hg.sz]; omega
      · intro i h1 h2
        by_cases hi : i < N
        · have := (hg.un i hi)
          rw [getD_tf h1] at this
          simp only [List.not_mem_nil, iff_false, Bool.not_eq_false] at this
          simp [this, hi]
        · have := hg.tl i (by omega) (by rw [← hg.sz]; exact h1)
          rw [getD_tf h1] at this
          simp only [this, List.getElem_toArray]
          rw [List.getElem_append_right (by simp; omega)]
          simp
    have hall := putO_all (a := a) (β := β) (fl := fl) (fun q hq => by
      obtain ⟨i, hi, hFi, oi, ho, hd⟩ := hfl.all q hq
      intro hn
      have := (hβ i hi hFi oi q.1 ho hd).2 hn
      cases this)
    rw [hall.2] at hs
    rw [hall.1]
    have hwl := hK a Y _ w h hs
    have hlen : (ops.toList.drop N).length = ops.size - N := by simp
    have := wpAny_of_seq (md := .any) (Q' := Q) (ops.toList.drop N) N listed _ w (fun j => by simp [List.getElem?_drop]) (by rw [hlen, hl]; exact hseq) hwl
    rw [hlen] at this
    rw [Nat.zero_add]
    exact this
  | succ m ih =>
    intro rem listed a Y β w hm hg hβ hs h
    have hready : ∀ i, i ∈ Region.ready .any ops listed → i ∈ rem := by
      intro i hi
      obtain ⟨h1, o, ho, hdeps⟩ := mem_ready.1 hi
      have hisz := (Array.getElem?_eq_some_iff.1 ho).1
      by_cases hiN : i < N
      · exact (hg.un i hiN).1 h1
      · exfalso
        obtain ⟨j, hj⟩ : ∃ j, j ∈ rem := by cases rem with | nil => simp at hm | cons x r => exact ⟨x, by simp⟩
        have hw := List.all_eq_true.1 htail i (by simpa using hisz)
        simp only [Bool.or_eq_true, decide_eq_true_eq] at hw
        have hw2 := List.all_eq_true.1 (hw.resolve_left hiN) j (by simpa using hg.lt j hj)
        have h3 := waits_listed hlow hg.down i j o ho hdeps hw2
        have h4 := (hg.un j (hg.lt j hj)).2 hj
        have hjs : j < listed.size := by have := hg.lt j hj; have := hg.sz; omega
        rw [getD_tf hjs] at h3 h4
        rw [h3] at h4; cases h4
    rw [show m + 1 + (ops.size - N) = (m + (ops.size - N)) + 1 from by omega]
    refine ⟨fun h0 => ?_, fun i hi => ?_⟩
    · exfalso
      cases rem with
      | nil => simp at hm
      | cons i0 r =>
        have hi0N := hg.lt i0 (by simp)
        have hi0 : i0 < ops.size := by omega
        have : i0 ∈ Region.ready .any ops listed := by
          refine mem_ready.2 ⟨(hg.un i0 hi0N).2 (by simp), ops[i0], Array.getElem?_eq_getElem hi0, fun e he hb => ?_⟩
          have hl := List.all_eq_true.1 hlow i0 (by simpa using hi0)
          simp only [Array.getElem?_eq_getElem hi0] at hl
          have hl2 := Array.all_eq_true_iff_forall_mem.1 hl e he
          simp only [hb, Bool.not_true, Bool.false_or, decide_eq_true_eq] at hl2
          have hnot : e.on ∉ i0 :: r := by
            intro hm'
            rcases List.mem_cons.1 hm' with h' | h'
            · omega
            · have := (List.pairwise_cons.1 hg.sorted).1 e.on h'
              omega
          have h5 := (hg.un e.on (by omega))
          have hes : e.on < listed.size := by rw [hg.sz]; omega
          rw [getD_tf hes] at h5 ⊢
          cases hx : listed[e.on] with
          | true => rfl
          | false => exact absurd (h5.1 hx) hnot
        rw [h0] at this; cases this
    · obtain ⟨h1, oi, hoi, hdeps⟩ := mem_ready.1 hi
      obtain ⟨A, B, hAB⟩ := List.append_of_mem (hready i hi)
      have hiN := hg.lt i (hready i hi)
      have hsz : i < listed.size := by rw [hg.sz]; omega
      have hA : ∀ j ∈ A, j < i ∧ j ∈ rem := by
        intro j hj
        have := hg.sorted
        rw [hAB, List.pairwise_append] at this
        exact ⟨this.2.2 j hj i (by simp), by rw [hAB]; simp [hj]⟩
      have hpr : ∀ j ∈ A, (∀ oj, ops[j]? = some oj → oj.apart ops oi = true) ∧ (E i && E j) = false := by
        intro j hj
        obtain ⟨hji, hjr⟩ := hA j hj
        have hp := List.all_eq_true.1 (List.all_eq_true.1 hpair i (by simpa using hiN)) j (by simpa using hji)
        rcases Bool.or_eq_true _ _ ▸ hp with hp | hp
        · exfalso
          have h3 := waits_listed hlow hg.down i j oi hoi hdeps hp
          have h4 := (hg.un j (hg.lt j hjr)).2 hjr
          have hjs : j < listed.size := by have := hg.lt j hjr; have := hg.sz; omega
          rw [getD_tf hjs] at h3 h4
          rw [h3] at h4; cases h4
        · rw [hoi] at hp
          split at hp
          · rename_i oj oi' hoj hoi'
            cases hoi'
            simp only [Bool.and_eq_true, Bool.not_eq_true'] at hp
            exact ⟨fun oj' ho' => by rw [hoj] at ho'; cases ho'; exact hp.1, hp.2⟩
          · cases hp
      have hg' : Good ops N (A ++ B) (listed.setIfInBounds i true) := by
        have hnd : rem.Nodup := hg.sorted.imp (fun h => by omega)
        refine ⟨by simp [hg.sz], ?_, ?_, ?_, ?_, ?_⟩
        · have := hg.sorted
          rw [hAB] at this
          exact this.sublist (List.Sublist.append (List.Sublist.refl A) (List.sublist_cons_self i B))
        · intro j hj; exact hg.lt j (by rw [hAB]; rcases List.mem_append.1 hj with h | h <;> simp [h])
        · intro j hjN
          have hjs : j < listed.size := by have := hg.sz; omega
          have h5 := hg.un j hjN
          rw [getD_tf hjs] at h5
          rw [getD_tf (by simpa using hjs), Array.getElem_setIfInBounds (by simpa using hjs)]
          by_cases hij : i = j
          · subst hij
            rw [if_pos rfl]
            rw [hAB, List.nodup_append] at hnd
            simp only [Bool.true_eq_false, false_iff, List.mem_append, not_or]
            exact ⟨fun hm => hnd.2.2 i hm i (by simp) rfl, (List.nodup_cons.1 hnd.2.1).1⟩
          · rw [if_neg hij, h5, hAB]
            simp only [List.mem_append, List.mem_cons]
            constructor
            · rintro (h | h | h)
              · exact .inl h
              · exact absurd h.symm hij
              · exact .inr h
            · rintro (h | h)
              · exact .inl h
              · exact .inr (.inr h)
        · intro j hjN hjs
          have hjs' : j < listed.size := by rw [hg.sz]; exact hjs
          have := hg.tl j hjN hjs
          rw [getD_tf hjs'] at this
          rw [getD_tf (by simpa using hjs'), Array.getElem_setIfInBounds (by simpa using hjs'), if_neg (by omega)]
          exact this
        · intro j o ho hlj e he hb
          have hjs : j < listed.size := by rw [hg.sz]; exact (Array.getElem?_eq_some_iff.1 ho).1
          have keep : listed.getD e.on false = true → (listed.setIfInBounds i true).getD e.on false = true := by
            intro hx
            by_cases hes : e.on < listed.size
            · rw [getD_tf hes] at hx
              rw [getD_tf (by simpa using hes), Array.getElem_setIfInBounds (by simpa using hes)]
              split
              · rfl
              · exact hx
            · simp only [Array.getD_eq_getD_getElem?, Array.getElem?_eq_none (Nat.le_of_not_lt hes)] at hx
              simp at hx
          rw [getD_tf (by simpa using hjs), Array.getElem_setIfInBounds (by simpa using hjs)] at hlj
          by_cases hij : i = j
          · subst hij
            rw [hoi] at ho
            cases ho
            exact keep (hdeps e he hb)
          · rw [if_neg hij] at hlj
            exact keep (hg.down j o ho (by rw [getD_tf hjs]; exact hlj) e he hb)
      have hlenAB : (A ++ B).length = m := by rw [hAB] at hm; simp at hm ⊢; omega
      have hnd : rem.Nodup := hg.sorted.imp (fun h => by omega)
      rw [hAB] at h
      unfold wpOp
      rw [hoi]
      cases hFi : F i with
      | true =>
        obtain ⟨oi', d, o, ho', hd, hgu, hmem, hrun⟩ := hfl.new i hiN hFi
        rw [hoi] at ho'
        cases ho'
        have hβd : β d = none := (hβ i hiN hFi oi d hoi hd).1 (by rw [hAB]; simp)
        have hS : SWr P R cx ops E F Kf (A ++ B) a Y := by
          have skip : ∀ (A : List Nat) (a : Act) (Y : List HL), SWr P R cx ops E F Kf (A ++ i :: B) a Y → SWr P R cx ops E F Kf (A ++ B) a Y := by
            intro A
            induction A with
            | nil => intro a Y h; simpa [SWr, hoi, hFi] using h
            | cons j A ihA =>
              intro a Y h
              simp only [List.cons_append, SWr] at h ⊢
              cases hj : ops[j]? with
              | none => simp only [hj] at h ⊢; exact ihA a Y h
              | some oj =>
                simp only [hj] at h ⊢
                split at h
                · rename_i hFj; rw [if_pos hFj]; exact ihA a Y h
                · rename_i hFj
                  rw [if_neg hFj]
                  cases hEj : E j with
                  | false =>
                    simp only [hEj, eOp] at h ⊢
                    obtain ⟨v, hq, hh⟩ := h
                    exact ⟨v, hq, ihA _ _ hh⟩
                  | true =>
                    simp only [hEj, eOp] at h ⊢
                    rcases h with ⟨h1, h2⟩ | ⟨h1, h2⟩
                    · refine .inl ⟨h1, fun w hs => acts_mono ?_ (h2 w hs)⟩
                      rintro v w' ⟨Y', hs', hh⟩
                      exact ⟨Y', hs', ihA _ _ hh⟩
                    · exact .inr ⟨h1, ihA _ _ h2⟩
          exact skip A a Y h
        obtain ⟨mm, hr⟩ := hrun (putO a fl β) w
        have hw : Region.wanted oi (yielded ops (putO a fl β).tmps) = true := by simp [Region.wanted, hgu]
        simp only [hw, if_true]
        refine .inl ?_
        unfold Oper.wp
        rw [hr]
        have hnew := putO_new (a := a) (b := w.heap.size) hfl.nd hmem hβd
        show wpAny P .any ops Q (m + (ops.size - N)) (listed.setIfInBounds i true) ((putO a fl β).put oi.dst (.pointer (some ⟨w.heap.size, 0, none⟩))) _
        rw [hd, hnew.1]
        have hs0 : St cx.w0 cx.S0 R (zO fl β :: Y) { w with drawn := mm } := hs.drawn mm
        have hs1 : St cx.w0 cx.S0 R (zO fl (setB β d w.heap.size) :: Y) ({ w with drawn := mm }.alloc o) := by
          refine (hs0.new o).perm (X := []) ?_
          simp only [List.flatten_cons, List.append_nil]
          rw [← List.append_assoc]
          exact List.Perm.append_right _ (by simpa using hnew.2.symm)
        refine ih (A ++ B) _ a Y (setB β d w.heap.size) _ hlenAB hg' ?_ hs1 hS
        intro i' hi' hFi' oi' d' ho' hd'
        by_cases hdd : d' = d
        · subst hdd
          have hii : i' = i := hfl.inj i' i hi' hiN hFi' hFi oi' oi ho' hoi (by rw [hd', hd])
          subst hii
          simp only [setB, if_true, reduceCtorEq, iff_false]
          rw [hAB, List.nodup_append] at hnd
          simp only [List.mem_append, not_or]
          exact ⟨fun hm => hnd.2.2 i' hm i' (by simp) rfl, (List.nodup_cons.1 hnd.2.1).1⟩
        · have hne : i' ≠ i := by rintro rfl; rw [hoi] at ho'; cases ho'; rw [hd] at hd'; cases hd'; exact hdd rfl
          have e1 : setB β d w.heap.size d' = β d' := by simp [setB, hdd]
          rw [e1, ← hβ i' hi' hFi' oi' d' ho' hd', hAB]
          simp [hne]
      | false =>
      have hap := hfl.apart i hiN hFi oi hoi
      have ho1 : ∀ cs b, oi.op ≠ .select cs b := fun cs b => hsel i oi cs b hoi
      have hex := putO_exec ho1 (a := a) (β := β) (fl := fl) (fun q hq => (hap q hq).1)
      have hwa := putO_wanted (o := oi) (a := a) (β := β) (fl := fl) (fun q hq => (hap q hq).1)
      have hpu : ∀ v, (putO a fl β).put oi.dst v = putO (a.put oi.dst v) fl β := fun v => putO_put (fun q hq => (hap q hq).2)
      have hβ' : ∀ i', i' < N → F i' = true → ∀ oi' d', ops[i']? = some oi' → oi'.dst = some d' → (i' ∈ A ++ B ↔ β d' = none) := by
        intro i' hi' hFi' oi' d' ho' hd'
        have hne : i' ≠ i := by rintro rfl; rw [hFi] at hFi'; cases hFi'
        rw [← hβ i' hi' hFi' oi' d' ho' hd', hAB]
        simp [hne]
      cases hE : E i with
      | false =>
        obtain ⟨v, hq, hS⟩ := extQ hsel hoi hFi hE A B a Y w (fun j hj _ => (hpr j hj).1) hs.z h
        rcases hq with ⟨hw, hrun⟩ | ⟨hw, rfl⟩
        · simp only [hwa, hw, if_true]
          have hrun' : qacts P oi (putO a fl β) w v fun w' => St cx.w0 cx.S0 R Y w' ∧ Lf Y Y w w' := by
            have := hrun Y w hs.z
            unfold qacts at this ⊢
            rw [hex]
            exact this
          refine .inl (qacts_wp hrun' ?_)
          rintro w' ⟨hs', hlf⟩
          rw [hpu]
          exact ih (A ++ B) _ (a.put oi.dst v) Y β w' hlenAB hg' hβ' (hs.lf hs' hlf) hS
        · simp only [hwa, hw, Bool.false_eq_true, if_false]
          rw [hpu]
          exact ih (A ++ B) _ (a.put oi.dst undef) Y β w hlenAB hg' hβ' hs hS
      | true =>
        have he := extE hsel hoi hFi hE A B a Y (fun j hj _ => by have := hpr j hj; rw [hE, Bool.true_and] at this; exact ⟨this.2, this.1⟩) h
        simp only [eOp] at he
        rcases he with ⟨hw, hact⟩ | ⟨hw, hS⟩
        · simp only [hwa, hw, if_true]
          refine .inl (acts_wp (acts_of_same hex ?_ (hact w hs.z)))
          rintro v w' ⟨Y', ⟨hs', hlf⟩, hS⟩
          rw [hpu]
          exact ih (A ++ B) _ _ Y' β w' hlenAB hg' hβ' (hs.lf hs' hlf) hS
        · simp only [hwa, hw, Bool.false_eq_true, if_false]
          rw [hpu]
          exact ih (A ++ B) _ _ Y β w hlenAB hg' hβ' hs hS

/-- What is left when nothing of the head acts or is new any more. -/
theorem swr_quiet {Kf1 Kf2 : Act → List HL → Prop} {fl : List (Nat × Obj)} {β : Nat → Nat} {post : List Nat} (hq : ∀ (j : Nat) (o : Oper) cs b, ops[j]? = some o → o.op ≠ .select cs b)
    (hK : ∀ a Y, Kf1 a Y → SWr P R cx ops E (fun _ => false) Kf2 post (putT a fl β) (zT fl β :: Y)) : ∀ (rem : List Nat) (a : Act) (Y : List HL),
    (∀ j ∈ rem, E j = false ∧ F j = false ∧ ∀ oj, ops[j]? = some oj → ∀ q ∈ fl, q.1 ∉ oj.looksAt ops ∧ oj.dst ≠ some q.1) → SWr P R cx ops E F Kf1 rem a Y → SWr P R cx ops E (fun _ => false) Kf2 (rem ++ post) (putT a fl β) (zT fl β :: Y)
  | [], a, Y, _, h => hK a Y h
  | j :: rem, a, Y, hr, h => by
    obtain ⟨h1, h2, h3⟩ := hr j (by simp)
    simp only [List.cons_append, SWr] at h ⊢
    cases hj : ops[j]? with
    | none =>
      simp only [hj] at h ⊢
      exact swr_quiet hq hK rem a Y (fun k hk => hr k (by simp [hk])) h
    | some oj =>
      have hap := h3 oj hj
      simp only [hj, h1, h2, Bool.false_eq_true, if_false, eOp] at h ⊢
      obtain ⟨v, hqv, hS⟩ := h
      have hall : putO a fl (fun d => some (β d)) = putT a fl β := (putO_all (fl := fl) (β := fun d => some (β d)) (fun _ _ => by simp)).1
      have hex := putO_exec (ops := ops) (fun cs b => hq j oj cs b hj) (a := a) (β := fun d => some (β d)) (fl := fl) (fun q hq => (hap q hq).1)
      have hwa := putO_wanted (ops := ops) (o := oj) (a := a) (β := fun d => some (β d)) (fl := fl) (fun q hq => (hap q hq).1)
      have hpu : (putO a fl (fun d => some (β d))).put oj.dst v = putO (a.put oj.dst v) fl (fun d => some (β d)) := putO_put (fun q hq => (hap q hq).2)
      have hall2 : putO (a.put oj.dst v) fl (fun d => some (β d)) = putT (a.put oj.dst v) fl β := (putO_all (fl := fl) (β := fun d => some (β d)) (fun _ _ => by simp)).1
      rw [hall] at hex hwa hpu
      rw [hall2] at hpu
      exact ⟨v, hqv.of_same hex hwa, by rw [hpu]; exact swr_quiet hq hK rem _ Y (fun k hk => hr k (by simp [hk])) hS⟩
theorem Good.more {N1 N2 : Nat} {rem : List Nat} {listed : Array Bool} (h : Good ops N1 rem listed) (h12 : N1 ≤ N2) (h2 : N2 ≤ ops.size) : Good ops N2 (rem ++ List.range' N1 (N2 - N1)) listed := by
  refine ⟨h.sz, ?_, ?_, ?_, ?_, h.down⟩
  · rw [List.pairwise_append]
    refine ⟨h.sorted, List.pairwise_lt_range', fun x hx y hy => ?_⟩
    have := h.lt x hx
    have := List.mem_range'_1.1 hy
    omega
  · intro i hi
    rcases List.mem_append.1 hi with hi | hi
    · have := h.lt i hi; omega
    · have := List.mem_range'_1.1 hi; omega
  · intro i hi
    by_cases h3 : i < N1
    · rw [h.un i h3, List.mem_append]
      constructor
      · exact .inl
      · rintro (h4 | h4)
        · exact h4
        · have := List.mem_range'_1.1 h4; omega
    · have h4 := h.tl i (by omega) (by omega)
      have h5 : i ∈ rem ++ List.range' N1 (N2 - N1) := List.mem_append.2 (.inr (List.mem_range'_1.2 (by omega)))
      exact ⟨fun _ => h5, fun _ => h4⟩
  · intro i hi hi2
    exact h.tl i (by omega) hi2
/-- What stands behind the head waits for all of it that acts or is new. -/
def tailB (ops : Array Oper) (E F : Nat → Bool) (N1 : Nat) : Bool :=
  (List.range ops.size).all fun i => decide (i < N1) || (List.range N1).all fun j => !(E j || F j) || waits ops i j
theorem any_of_swrG {N1 N2 : Nat} {Q : Exit → Act → World → Prop} {fl : List (Nat × Obj)} {Kf2 : Act → List HL → Prop} (hfl : FlOk P ops F N1 fl) (h12 : N1 ≤ N2) (hB : drawB ops E N2 = true) (htB : tailB ops E F N1 = true)
    (hK1 : ∀ a Y β, Kf a Y → SWr P R cx ops E (fun _ => false) Kf2 (List.range' N1 (N2 - N1)) (putT a fl β) (zT fl β :: Y))
    (hK : ∀ a Y w, Kf2 a Y → St cx.w0 cx.S0 R ([] :: Y) w → wpList P ops Q (ops.toList.drop N2) a w) : ∀ (m : Nat) (rem : List Nat) (listed : Array Bool) (a : Act) (Y : List HL) (β : Nat → Option Nat) (w : World), rem.length = m → Good ops N1 rem listed →
      (∀ i, i < N1 → F i = true → ∀ oi d, ops[i]? = some oi → oi.dst = some d → (i ∈ rem ↔ β d = none)) →
      St cx.w0 cx.S0 R (zO fl β :: Y) w → SWr P R cx ops E F Kf rem a Y → wpAny P .any ops Q (m + (ops.size - N1)) listed (putO a fl β) w := by
  have hB0 := hB
  simp only [drawB, Bool.and_eq_true, decide_eq_true_eq] at hB
  obtain ⟨⟨⟨⟨⟨hlow, hns⟩, hN⟩, hpair⟩, htail⟩, hseq⟩ := hB
  have hsel := Region.noSelect_spec hns
  have hN1 : N1 ≤ ops.size := by omega
  have fin : ∀ (rem : List Nat) (listed : Array Bool) (a : Act) (Y : List HL) (β : Nat → Option Nat) (w : World), Good ops N1 rem listed → (∀ i, i < N1 → F i = true → ∀ oi d, ops[i]? = some oi → oi.dst = some d → (i ∈ rem ↔ β d = none)) →
      St cx.w0 cx.S0 R (zO fl β :: Y) w → (∀ j ∈ rem, E j = false ∧ F j = false) → SWr P R cx ops E F Kf rem a Y → wpAny P .any ops Q (rem.length + (ops.size - N1)) listed (putO a fl β) w := by
    intro rem listed a Y β w hg hβ hs hqr h
    have hall := putO_all (a := a) (β := β) (fl := fl) (fun q hq => by
      obtain ⟨i, hi, hFi, oi, ho, hd⟩ := hfl.all q hq
      intro hn
      have := hqr i ((hβ i hi hFi oi q.1 ho hd).2 hn)
      rw [hFi] at this
      cases this.2)
    have h2 := swr_quiet (Kf2 := Kf2) (fl := fl) (β := fun d => (β d).getD 0) hsel (fun a Y hh => hK1 a Y _ hh) rem a Y (fun j hj => ⟨(hqr j hj).1, (hqr j hj).2, fun oj hoj => hfl.apart j (hg.lt j hj) (hqr j hj).2 oj hoj⟩) h
    rw [← hall.1, ← hall.2] at h2
    have key := any_of_swr (P := P) (R := R) (cx := cx) (ops := ops) (E := E) (F := fun _ => false) (N := N2) (Q := Q) (fl := []) (Kf := Kf2)
      ⟨List.nodup_nil, (fun _ _ h => by cases h), (fun _ _ _ _ _ q hq => by cases hq), (fun _ _ _ _ h => by cases h), (fun q hq => by cases hq)⟩ hB0 (fun a Y β w hk hs => hK a Y w hk hs) _ (rem ++ List.range' N1 (N2 - N1)) listed (putO a fl β) (zO fl β :: Y) (fun _ => none) w rfl (hg.more h12 hN)
      (fun i _ h => by cases h) (hs.perm (X := []) (by simp [zO])) h2
    have e : (rem ++ List.range' N1 (N2 - N1)).length + (ops.size - N2) = rem.length + (ops.size - N1) := by simp; omega
    rw [e] at key
    exact key
  intro m
  induction m with
  | zero =>
    intro rem listed a Y β w hm hg hβ hs h
    have hr : rem = [] := List.eq_nil_of_length_eq_zero hm
    subst hr
    exact fin [] listed a Y β w hg hβ hs (fun j hj => by cases hj) h
  | succ m ih =>
    intro rem listed a Y β w hm hg hβ hs h
    by_cases hqr : ∀ j ∈ rem, E j = false ∧ F j = false
    · have := fin rem listed a Y β w hg hβ hs hqr h
      rwa [hm] at this
    obtain ⟨j0, hj0, hj0E⟩ : ∃ j0, j0 ∈ rem ∧ (E j0 || F j0) = true := by
      refine Classical.byContradiction fun hn => hqr fun j hj => ?_
      cases h1 : E j <;> cases h2 : F j <;> first | exact ⟨rfl, rfl⟩ | exact absurd ⟨j, hj, by simp [h1, h2]⟩ hn
    have hready : ∀ i, i ∈ Region.ready .any ops listed → i ∈ rem := by
      intro i hi
      obtain ⟨h1, o, ho, hdeps⟩ := mem_ready.1 hi
      have hisz := (Array.getElem?_eq_some_iff.1 ho).1
      by_cases hiN : i < N1
      · exact (hg.un i hiN).1 h1
      · exfalso
        have hw := List.all_eq_true.1 htB i (by simpa using hisz)
        simp only [Bool.or_eq_true, decide_eq_true_eq] at hw
        have hw2 := List.all_eq_true.1 (hw.resolve_left hiN) j0 (by simpa using hg.lt j0 hj0)
        rw [hj0E, Bool.not_true, Bool.false_or] at hw2
        have h3 := waits_listed hlow hg.down i j0 o ho hdeps hw2
        have h4 := (hg.un j0 (hg.lt j0 hj0)).2 hj0
        have hjs : j0 < listed.size := by have := hg.lt j0 hj0; have := hg.sz; omega
        rw [getD_tf hjs] at h3 h4
        rw [h3] at h4; cases h4
    rw [show m + 1 + (ops.size - N1) = (m + (ops.size - N1)) + 1 from by omega]
    refine ⟨fun h0 => ?_, fun i hi => ?_⟩
    · exfalso
      cases rem with
      | nil => simp at hm
      | cons i0 r =>
        have hi0N := hg.lt i0 (by simp)
        have hi0 : i0 < ops.size := by omega
        have : i0 ∈ Region.ready .any ops listed := by
          refine mem_ready.2 ⟨(hg.un i0 hi0N).2 (by simp), ops[i0], Array.getElem?_eq_getElem hi0, fun e he hb => ?_⟩
          have hl := List.all_eq_true.1 hlow i0 (by simpa using hi0)
          simp only [Array.getElem?_eq_getElem hi0] at hl
          have hl2 := Array.all_eq_true_iff_forall_mem.1 hl e he
          simp only [hb, Bool.not_true, Bool.false_or, decide_eq_true_eq] at hl2
          have hnot : e.on ∉ i0 :: r := by
            intro hm'
            rcases List.mem_cons.1 hm' with h' | h'
            · omega
            · have := (List.pairwise_cons.1 hg.sorted).1 e.on h'
              omega
          have h5 := (hg.un e.on (by omega))
          have hes : e.on < listed.size := by rw [hg.sz]; omega
          rw [getD_tf hes] at h5 ⊢
          cases hx : listed[e.on] with
          | true => rfl
          | false => exact absurd (h5.1 hx) hnot
        rw [h0] at this; cases this
    · obtain ⟨h1, oi, hoi, hdeps⟩ := mem_ready.1 hi
      obtain ⟨A, B, hAB⟩ := List.append_of_mem (hready i hi)
      have hiN := hg.lt i (hready i hi)
      have hsz : i < listed.size := by rw [hg.sz]; omega
      have hA : ∀ j ∈ A, j < i ∧ j ∈ rem := by
        intro j hj
        have := hg.sorted
        rw [hAB, List.pairwise_append] at this
        exact ⟨this.2.2 j hj i (by simp), by rw [hAB]; simp [hj]⟩
      have hpr : ∀ j ∈ A, (∀ oj, ops[j]? = some oj → oj.apart ops oi = true) ∧ (E i && E j) = false := by
        intro j hj
        obtain ⟨hji, hjr⟩ := hA j hj
        have hp := List.all_eq_true.1 (List.all_eq_true.1 hpair i (by simp; omega)) j (by simpa using hji)
        rcases Bool.or_eq_true _ _ ▸ hp with hp | hp
        · exfalso
          have h3 := waits_listed hlow hg.down i j oi hoi hdeps hp
          have h4 := (hg.un j (hg.lt j hjr)).2 hjr
          have hjs : j < listed.size := by have := hg.lt j hjr; have := hg.sz; omega
          rw [getD_tf hjs] at h3 h4
          rw [h3] at h4; cases h4
        · rw [hoi] at hp
          split at hp
          · rename_i oj oi' hoj hoi'
            cases hoi'
            simp only [Bool.and_eq_true, Bool.not_eq_true'] at hp
            exact ⟨fun oj' ho' => by rw [hoj] at ho'; cases ho'; exact hp.1, hp.2⟩
          · cases hp
      have hg' : Good ops N1 (A ++ B) (listed.setIfInBounds i true) := by
        have hnd : rem.Nodup := hg.sorted.imp (fun h => by omega)
        refine ⟨by simp [hg.sz], ?_, ?_, ?_, ?_, ?_⟩
        · have := hg.sorted
          rw [hAB] at this
          exact this.sublist (List.Sublist.append (List.Sublist.refl A) (List.sublist_cons_self i B))
        · intro j hj; exact hg.lt j (by rw [hAB]; rcases List.mem_append.1 hj with h | h <;> simp [h])
        · intro j hjN
          have hjs : j < listed.size := by have := hg.sz; omega
          have h5 := hg.un j hjN
          rw [getD_tf hjs] at h5
          rw [getD_tf (by simpa using hjs), Array.getElem_setIfInBounds (by simpa using hjs)]
          by_cases hij : i = j
          · subst hij
            rw [if_pos rfl]
            rw [hAB, List.nodup_append] at hnd
            simp only [Bool.true_eq_false, false_iff, List.mem_append, not_or]
            exact ⟨fun hm => hnd.2.2 i hm i (by simp) rfl, (List.nodup_cons.1 hnd.2.1).1⟩
          · rw [if_neg hij, h5, hAB]
            simp only [List.mem_append, List.mem_cons]
            constructor
            · rintro (h | h | h)
              · exact .inl h
              · exact absurd h.symm hij
              · exact .inr h
            · rintro (h | h)
              · exact .inl h
              · exact .inr (.inr h)
        · intro j hjN hjs
          have hjs' : j < listed.size := by rw [hg.sz]; exact hjs
          have := hg.tl j hjN hjs
          rw [getD_tf hjs'] at this
          rw [getD_tf (by simpa using hjs'), Array.getElem_setIfInBounds (by simpa using hjs'), if_neg (by omega)]
          exact this
        · intro j o ho hlj e he hb
          have hjs : j < listed.size := by rw [hg.sz]; exact (Array.getElem?_eq_some_iff.1 ho).1
          have keep : listed.getD e.on false = true → (listed.setIfInBounds i true).getD e.on false = true := by
            intro hx
            by_cases hes : e.on < listed.size
            · rw [getD_tf hes] at hx
              rw [getD_tf (by simpa using hes), Array.getElem_setIfInBounds (by simpa using hes)]
              split
              · rfl
              · exact hx
            · simp only [Array.getD_eq_getD_getElem?, Array.getElem?_eq_none (Nat.le_of_not_lt hes)] at hx
              simp at hx
          rw [getD_tf (by simpa using hjs), Array.getElem_setIfInBounds (by simpa using hjs)] at hlj
          by_cases hij : i = j
          · subst hij
            rw [hoi] at ho
            cases ho
            exact keep (hdeps e he hb)
          · rw [if_neg hij] at hlj
            exact keep (hg.down j o ho (by rw [getD_tf hjs]; exact hlj) e he hb)
      have hlenAB : (A ++ B).length = m := by rw [hAB] at hm; simp at hm ⊢; omega
      have hnd : rem.Nodup := hg.sorted.imp (fun h => by omega)
      rw [hAB] at h
      unfold wpOp
      rw [hoi]
      cases hFi : F i with
      | true =>
        obtain ⟨oi', d, o, ho', hd, hgu, hmem, hrun⟩ := hfl.new i hiN hFi
        rw [hoi] at ho'
        cases ho'
        have hβd : β d = none := (hβ i hiN hFi oi d hoi hd).1 (by rw [hAB]; simp)
        have hS : SWr P R cx ops E F Kf (A ++ B) a Y := by
          have skip : ∀ (A : List Nat) (a : Act) (Y : List HL), SWr P R cx ops E F Kf (A ++ i :: B) a Y → SWr P R cx ops E F Kf (A ++ B) a Y := by
            intro A
            induction A with
            | nil => intro a Y h; simpa [SWr, hoi, hFi] using h
            | cons j A ihA =>
              intro a Y h
              simp only [List.cons_append, SWr] at h ⊢
              cases hj : ops[j]? with
              | none => simp only [hj] at h ⊢; exact ihA a Y h
              | some oj =>
                simp only [hj] at h ⊢
                split at h
                · rename_i hFj; rw [if_pos hFj]; exact ihA a Y h
                · rename_i hFj
                  rw [if_neg hFj]
                  cases hEj : E j with
                  | false =>
                    simp only [hEj, eOp] at h ⊢
                    obtain ⟨v, hq, hh⟩ := h
                    exact ⟨v, hq, ihA _ _ hh⟩
                  | true =>
                    simp only [hEj, eOp] at h ⊢
                    rcases h with ⟨h1, h2⟩ | ⟨h1, h2⟩
                    · refine .inl ⟨h1, fun w hs => acts_mono ?_ (h2 w hs)⟩
                      rintro v w' ⟨Y', hs', hh⟩
                      exact ⟨Y', hs', ihA _ _ hh⟩
                    · exact .inr ⟨h1, ihA _ _ h2⟩
          exact skip A a Y h
        obtain ⟨mm, hr⟩ := hrun (putO a fl β) w
        have hw : Region.wanted oi (yielded ops (putO a fl β).tmps) = true := by simp [Region.wanted, hgu]
        simp only [hw, if_true]
        refine .inl ?_
        unfold Oper.wp
        rw [hr]
        have hnew := putO_new (a := a) (b := w.heap.size) hfl.nd hmem hβd
        show wpAny P .any ops Q (m + (ops.size - N1)) (listed.setIfInBounds i true) ((putO a fl β).put oi.dst (.pointer (some ⟨w.heap.size, 0, none⟩))) _
        rw [hd, hnew.1]
        have hs0 : St cx.w0 cx.S0 R (zO fl β :: Y) { w with drawn := mm } := hs.drawn mm
        have hs1 : St cx.w0 cx.S0 R (zO fl (setB β d w.heap.size) :: Y) ({ w with drawn := mm }.alloc o) := by
          refine (hs0.new o).perm (X := []) ?_
          simp only [List.flatten_cons, List.append_nil]
          rw [← List.append_assoc]
          exact List.Perm.append_right _ (by simpa using hnew.2.symm)
        refine ih (A ++ B) _ a Y (setB β d w.heap.size) _ hlenAB hg' ?_ hs1 hS
        intro i' hi' hFi' oi' d' ho' hd'
        by_cases hdd : d' = d
        · subst hdd
          have hii : i' = i := hfl.inj i' i hi' hiN hFi' hFi oi' oi ho' hoi (by rw [hd', hd])
          subst hii
          simp only [setB, if_true, reduceCtorEq, iff_false]
          rw [hAB, List.nodup_append] at hnd
          simp only [List.mem_append, not_or]
          exact ⟨fun hm => hnd.2.2 i' hm i' (by simp) rfl, (List.nodup_cons.1 hnd.2.1).1⟩
        · have hne : i' ≠ i := by rintro rfl; rw [hoi] at ho'; cases ho'; rw [hd] at hd'; cases hd'; exact hdd rfl
          have e1 : setB β d w.heap.size d' = β d' := by simp [setB, hdd]
          rw [e1, ← hβ i' hi' hFi' oi' d' ho' hd', hAB]
          simp [hne]
      | false =>
      have hap := hfl.apart i hiN hFi oi hoi
      have ho1 : ∀ cs b, oi.op ≠ .select cs b := fun cs b => hsel i oi cs b hoi
      have hex := putO_exec ho1 (a := a) (β := β) (fl := fl) (fun q hq => (hap q hq).1)
      have hwa := putO_wanted (o := oi) (a := a) (β := β) (fl := fl) (fun q hq => (hap q hq).1)
      have hpu : ∀ v, (putO a fl β).put oi.dst v = putO (a.put oi.dst v) fl β := fun v => putO_put (fun q hq => (hap q hq).2)
      have hβ' : ∀ i', i' < N1 → F i' = true → ∀ oi' d', ops[i']? = some oi' → oi'.dst = some d' → (i' ∈ A ++ B ↔ β d' = none) := by
        intro i' hi' hFi' oi' d' ho' hd'
        have hne : i' ≠ i := by rintro rfl; rw [hFi] at hFi'; cases hFi'
        rw [← hβ i' hi' hFi' oi' d' ho' hd', hAB]
        simp [hne]
      cases hE : E i with
      | false =>
        obtain ⟨v, hq, hS⟩ := extQ hsel hoi hFi hE A B a Y w (fun j hj _ => (hpr j hj).1) hs.z h
        rcases hq with ⟨hw, hrun⟩ | ⟨hw, rfl⟩
        · simp only [hwa, hw, if_true]
          have hrun' : qacts P oi (putO a fl β) w v fun w' => St cx.w0 cx.S0 R Y w' ∧ Lf Y Y w w' := by
            have := hrun Y w hs.z
            unfold qacts at this ⊢
            rw [hex]
            exact this
          refine .inl (qacts_wp hrun' ?_)
          rintro w' ⟨hs', hlf⟩
          rw [hpu]
          exact ih (A ++ B) _ (a.put oi.dst v) Y β w' hlenAB hg' hβ' (hs.lf hs' hlf) hS
        · simp only [hwa, hw, Bool.false_eq_true, if_false]
          rw [hpu]
          exact ih (A ++ B) _ (a.put oi.dst undef) Y β w hlenAB hg' hβ' hs hS
      | true =>
        have he := extE hsel hoi hFi hE A B a Y (fun j hj _ => by have := hpr j hj; rw [hE, Bool.true_and] at this; exact ⟨this.2, this.1⟩) h
        simp only [eOp] at he
        rcases he with ⟨hw, hact⟩ | ⟨hw, hS⟩
        · simp only [hwa, hw, if_true]
          refine .inl (acts_wp (acts_of_same hex ?_ (hact w hs.z)))
          rintro v w' ⟨Y', ⟨hs', hlf⟩, hS⟩
          rw [hpu]
          exact ih (A ++ B) _ _ Y' β w' hlenAB hg' hβ' (hs.lf hs' hlf) hS
        · simp only [hwa, hw, Bool.false_eq_true, if_false]
          rw [hpu]
          exact ih (A ++ B) _ _ Y β w hlenAB hg' hβ' hs hS

/-! ### One walk for every order -/
variable {n : Nat} {k : List Kont} {ρ : Env} {Y : List HL}
/-- The marks E, F of the operations l from the place i on, by 'el'. -/
def Marks (ops : Array Oper) (E F : Nat → Bool) (i : Nat) (el : List Kd) (l : List Oper) : Prop := ∀ j, j < l.length → ops[i + j]? = l[j]? ∧ E (i + j) = (el.getD j (.b false)).act ∧ F (i + j) = (el.getD j (.b false)).fl
def KfOf (n : Nat) (fl : List (Nat × Obj)) (K : Env → List HL → Prop) (a : Act) (Y : List HL) : Prop := ∀ β : Nat → Nat, ∃ ρ', Fits n ρ' (putT a fl β) ∧ K ρ' (zT fl β :: Y)
/-- What is left of the head: the operations l, of which those marked in 'el' act; fl: what those marked new make. -/
structure WD (P : Program) (n : Nat) (R : HL) (cx : Cx) (ops : Array Oper) (el : List Kd) (fl : List (Nat × Obj)) (l : List Oper) (ρ : Env) (Y : List HL) (K : Env → List HL → Prop) : Prop where
  go : ∀ (E F : Nat → Bool) (i : Nat) (a : Act), Marks ops E F i el l → Fits n ρ a → SWr P R cx ops E F (KfOf n fl K) (List.range' i l.length) a Y
variable {K : Env → List HL → Prop} {el : List Kd} {fl : List (Nat × Obj)}
theorem WD.nil (h : K ρ ([] :: Y)) : WD P n R cx ops el [] [] ρ Y K := ⟨fun _ _ _ _ _ hf _ => ⟨ρ, hf, h⟩⟩
theorem WD.tail_ {e : Kd} {o : Oper} {l : List Oper} {E F : Nat → Bool} {i : Nat} (h : Marks ops E F i (e :: el) (o :: l)) :
    ops[i]? = some o ∧ E i = e.act ∧ F i = e.fl ∧ Marks ops E F (i + 1) el l := by
  refine ⟨by simpa using (h 0 (by simp)).1, by simpa using (h 0 (by simp)).2.1, by simpa using (h 0 (by simp)).2.2, fun j hj => ?_⟩
  have := h (j + 1) (by simpa using hj)
  rw [show i + (j + 1) = i + 1 + j from by omega] at this
  simpa using this
theorem SWr.mono {E F : Nat → Bool} {Kf Kf' : Act → List HL → Prop} (h : ∀ a Y, Kf a Y → Kf' a Y) : ∀ (l : List Nat) (a : Act) (Y : List HL), SWr P R cx ops E F Kf l a Y → SWr P R cx ops E F Kf' l a Y
  | [], a, Y, hh => h a Y hh
  | j :: A, a, Y, hh => by
    simp only [SWr] at hh ⊢
    cases hj : ops[j]? with
    | none => simp only [hj] at hh ⊢; exact SWr.mono h A a Y hh
    | some oj =>
      simp only [hj] at hh ⊢
      split at hh
      · rename_i hFj; rw [if_pos hFj]; exact SWr.mono h A a Y hh
      · rename_i hFj
        rw [if_neg hFj]
        cases hEj : E j with
        | false =>
          simp only [hEj, eOp] at hh ⊢
          obtain ⟨v, hq, h1⟩ := hh
          exact ⟨v, hq, SWr.mono h A _ _ h1⟩
        | true =>
          simp only [hEj, eOp] at hh ⊢
          rcases hh with ⟨h1, h2⟩ | ⟨h1, h2⟩
          · refine .inl ⟨h1, fun w hs => acts_mono ?_ (h2 w hs)⟩
            rintro v w' ⟨Y', hs', h3⟩
            exact ⟨Y', hs', SWr.mono h A _ _ h3⟩
          · exact .inr ⟨h1, SWr.mono h A _ _ h2⟩
/-- A new block that nothing in the head waits for. -/
theorem WD.float {T : Tab} (hT : TabOk P T) {d : Nat} {t ty : TypeId} {pos : String} {af : Array Edge} {l : List Oper} {z : Value} {zs : List Value} (hz : look? T.zeros t = some z) (hc : cells? z = some zs) (hd : d < n)
    (hk : WD P n R cx ops el fl l ρ Y (fun ρ' Y' => ∀ b, ∀ Z Y2, Y' = Z :: Y2 → K ((d, .pointer (some ⟨b, 0, none⟩)) :: ρ') (((b, .cells zs.toArray t (0, 0)) :: Z) :: Y2))) :
    WD P n R cx ops (.f :: el) ((d, .cells zs.toArray t (0, 0)) :: fl) (⟨some d, .alloc t, ty, pos, af, none⟩ :: l) ρ Y K := by
  refine ⟨fun E F i a hl hf => ?_⟩
  obtain ⟨h1, h2, h3, h4⟩ := WD.tail_ hl
  have hn := hk.go E F (i + 1) a h4 hf
  have hF : F i = true := h3
  simp only [List.length_cons, List.range'_succ, SWr, h1, hF, if_true]
  refine SWr.mono ?_ _ _ _ hn
  intro a' Y' hK β
  obtain ⟨ρ', hf', hK'⟩ := hK β
  exact ⟨_, hf'.put hd _, hK' (β d) _ _ rfl⟩
theorem St.less {w0 w : World} {S0 : List Nat} {Y : List HL} (hs : St w0 S0 R Y w) : St w0 S0 R [] w := hs.perm (M := []) (X := Y.flatten) (by simp)
theorem WD.val {d : Nat} {op : Op} {ty : TypeId} {pos : String} {af : Array Edge} {l : List Oper} {v : Value} (h : OpVal P n R cx op ty ρ [] v) (hd : d < n) (hk : WD P n R cx ops el fl l ((d, v) :: ρ) Y K) :
    WD P n R cx ops (.b false :: el) fl (⟨some d, op, ty, pos, af, none⟩ :: l) ρ Y K := by
  refine ⟨fun E F i a hl hf => ?_⟩
  obtain ⟨h1, h2, h3, h4⟩ := WD.tail_ hl
  have hn := hk.go E F (i + 1) _ h4 (hf.put hd v)
  have hE : E i = false := h2
  have hF : F i = false := h3
  simp only [List.length_cons, List.range'_succ, SWr, h1, hE, hF, Bool.false_eq_true, if_false, eOp]
  exact ⟨v, .inl ⟨by simp [Region.wanted], fun Y w hs => .inl ⟨w, h.go ⟨some d, op, ty, pos, af, none⟩ a w rfl rfl hf hs.less, hs, Lf.rfl'⟩⟩, hn⟩
/-- An operation that acts. -/
theorem WD.act {o : Oper} {l : List Oper} (hg : o.guard = none)
    (h : ∀ a w, Fits n ρ a → St cx.w0 cx.S0 R Y w → acts P o a w fun a' w' => ∃ ρ' Y', Fits n ρ' a' ∧ (St cx.w0 cx.S0 R Y' w' ∧ Lf Y Y' w w') ∧ WD P n R cx ops el fl l ρ' Y' K) :
    WD P n R cx ops (.b true :: el) fl (o :: l) ρ Y K := by
  refine ⟨fun E F i a hl hf => ?_⟩
  obtain ⟨h1, h2, h3, h4⟩ := WD.tail_ hl
  have hE : E i = true := h2
  have hF : F i = false := h3
  simp only [List.length_cons, List.range'_succ, SWr, h1, hE, hF, Bool.false_eq_true, if_false, eOp]
  refine .inl ⟨by simp [Region.wanted, hg], fun w hs => acts_mono ?_ (h a w hf hs)⟩
  rintro v w' ⟨ρ', Y', hf', hs', hk⟩
  exact ⟨Y', hs', hk.go E F (i + 1) _ h4 hf'⟩
theorem Lf.call {Y pre rest L' : List HL} {ro : HL} {w w' : World} (hsel : Sel Y pre rest) (hst : St w (ids pre.flatten) ro L' w') : Lf Y (L' ++ rest) w w' := by
  have hp := hsel.perm
  have hi : (ids Y.flatten).Perm (ids pre.flatten ++ ids rest.flatten) := by simpa [ids] using hp.map (·.1)
  refine ⟨hst.sz, fun b hb hn => hst.fr b hb (fun h => hn (hi.mem_iff.2 (by simp [h]))), fun b hb => ?_⟩
  simp only [List.flatten_append, ids, List.map_append, List.mem_append] at hb
  rcases hb with hb | hb
  · rcases hst.own b hb with h | h
    · exact .inl (hi.mem_iff.2 (by simp [h]))
    · exact .inr h
  · exact .inl (hi.mem_iff.2 (List.mem_append.2 (.inr hb)))
theorem Lf.new {Y : List HL} {w : World} {o : Obj} {m : Nat} : Lf Y ([(w.heap.size, o)] :: Y) w ({ w with drawn := m }.alloc o) := by
  refine ⟨by simp, fun b hb _ => heap_alloc_old { w with drawn := m } o hb, fun b hb => ?_⟩
  simp only [List.flatten_cons, List.singleton_append, ids, List.map_cons, List.mem_cons] at hb
  rcases hb with rfl | hb
  · exact .inr (Nat.le_refl _)
  · exact .inl hb
theorem Lf.upd {b : Nat} {o o' : Obj} {L L' : List HL} {w w' : World} (hu : Upd b o o' L L') (ho : ∀ j, j ≠ b → w'.heap[j]? = w.heap[j]?) (hz : w'.heap.size = w.heap.size) : Lf L L' w w' := by
  obtain ⟨A, B, h1, h2⟩ := hu.split
  have hids : ids L'.flatten = ids L.flatten := by rw [h1, h2]; simp [ids]
  refine ⟨by omega, fun j _ hn => ho j ?_, fun j hj => .inl (by rw [← hids]; exact hj)⟩
  rintro rfl
  exact hn (by rw [h1]; simp [ids])
/-- A call, by its contract: what it leaves as it is, too. -/
theorem Ctr.use2 {f : FuncId} {args : List Value} {pre rest : List HL} {ro : HL} {post : Value → List HL → Prop} (hsp : Ctr P f args pre ro post)
    {w0 w : World} {S0 : List Nat} {L : List HL} (hs : St w0 S0 R L w) (h : Sel L pre rest) (hro : RoIn R rest ro) :
    Calls P f args.toArray w fun e w' => ∃ v L', e = .returned v ∧ post v L' ∧ St w0 S0 R (L' ++ rest) w' ∧ Lf L (L' ++ rest) w w' := by
  have hp := h.perm
  have hi : (ids L.flatten).Perm (ids pre.flatten ++ ids rest.flatten) := by simpa [ids] using hp.map (·.1)
  obtain ⟨n1, n2, n3⟩ := List.nodup_append.1 (hi.nodup_iff.1 hs.nd)
  refine (hsp.go w (fun p hpm => hs.has p (hp.mem_iff.2 (by simp [hpm]))) n1 (fun p hpm => ?_)).mono ?_
  · rcases hro p hpm with h1 | h1
    · exact ⟨hs.has p (hp.mem_iff.2 (by simp [h1])), fun hm => n3 _ hm _ (List.mem_map_of_mem (f := (·.1)) h1) rfl⟩
    · obtain ⟨h2, h3⟩ := hs.ro p h1
      have hlt := (Array.getElem?_eq_some_iff.1 h2).1
      refine ⟨by rw [hs.fr _ hlt h3]; exact h2, fun hm => ?_⟩
      rcases hs.own _ (hi.mem_iff.2 (List.mem_append.2 (.inl hm))) with h | h
      · exact h3 h
      · omega
  · rintro e w' ⟨v, L', he, hpost, hst⟩
    exact ⟨v, L', he, hpost, hs.call h hst, Lf.call h hst⟩
theorem WD.prim {d : Nat} {op : Op} {ty : TypeId} {pos : String} {af : Array Edge} {l : List Oper} {pre rest : List HL} {post : Value → List HL → Prop}
    (h : Prim P n R cx op ty ρ Y pre post) (hsel : Sel Y pre rest) (hd : d < n) (hk : ∀ v L', post v L' → WD P n R cx ops el fl l ((d, v) :: ρ) (L' ++ rest) K) :
    WD P n R cx ops (.b true :: el) fl (⟨some d, op, ty, pos, af, none⟩ :: l) ρ Y K := by
  refine WD.act rfl fun a w hf hs => ?_
  obtain ⟨v, L', w', hr, hp, hst⟩ := h.go ⟨some d, op, ty, pos, af, none⟩ a w rfl rfl hf hs
  exact .inl ⟨_, _, hr, _, _, hf.put hd v, ⟨hs.call hsel hst, Lf.call hsel hst⟩, hk v L' hp⟩
theorem WD.primU {op : Op} {ty : TypeId} {pos : String} {af : Array Edge} {l : List Oper} {pre rest : List HL} {post : Value → List HL → Prop}
    (h : Prim P n R cx op ty ρ Y pre post) (hsel : Sel Y pre rest) (hk : ∀ v L', post v L' → WD P n R cx ops el fl l ρ (L' ++ rest) K) :
    WD P n R cx ops (.b true :: el) fl (⟨none, op, ty, pos, af, none⟩ :: l) ρ Y K := by
  refine WD.act rfl fun a w hf hs => ?_
  obtain ⟨v, L', w', hr, hp, hst⟩ := h.go ⟨none, op, ty, pos, af, none⟩ a w rfl rfl hf hs
  exact .inl ⟨_, _, hr, _, _, by simpa [Act.put] using hf, ⟨hs.call hsel hst, Lf.call hsel hst⟩, hk v L' hp⟩
theorem WD.new_ {d : Nat} {op : Op} {ty : TypeId} {pos : String} {af : Array Edge} {l : List Oper} {o : Obj} {f : Nat → Value} (h : NewOf P n R cx op ty ρ Y o f) (hd : d < n)
    (hk : ∀ b, WD P n R cx ops el fl l ((d, f b) :: ρ) ([(b, o)] :: Y) K) : WD P n R cx ops (.b true :: el) fl (⟨some d, op, ty, pos, af, none⟩ :: l) ρ Y K := by
  refine WD.act rfl fun a w hf hs => ?_
  obtain ⟨m, hr⟩ := h.go ⟨some d, op, ty, pos, af, none⟩ a w rfl rfl hf hs
  have hs' : St cx.w0 cx.S0 R Y { w with drawn := m } := ⟨hs.has, hs.nd, hs.fr, hs.own, hs.sz, hs.ro, hs.env⟩
  exact .inl ⟨_, _, hr, _, _, hf.put hd _, ⟨hs'.new o, Lf.new⟩, hk w.heap.size⟩
theorem WD.call {d : Nat} {c : Call} {ty : TypeId} {pos : String} {af : Array Edge} {l : List Oper} {fo : Operand} {xs : Array Operand} {tys : Array TypeId}
    {f : FuncId} {fst vs cap args : List Value} {pre rest : List HL} {ro : HL} {post : Value → List HL → Prop}
    (hc : c = ⟨.value fo, xs, tys⟩) (hfo : ev? ρ fo = some (.func (.func f) fst.toArray cap.toArray)) (hxs : evs? ρ xs.toList = some vs) (hargs : fst ++ vs ++ cap = args)
    (hsp : Ctr P f args pre ro post) (hsel : Sel Y pre rest) (hro : RoIn R rest ro) (hd : d < n)
    (hk : ∀ v L', post v L' → WD P n R cx ops el fl l ((d, v) :: ρ) (L' ++ rest) K) :
    WD P n R cx ops (.b true :: el) fl (⟨some d, .call c, ty, pos, af, none⟩ :: l) ρ Y K := by
  refine WD.act rfl fun a w hf hs => ?_
  have hxs' := hf.evs hxs
  have hx : xs.map a.eval = vs.toArray := by cases xs; simp at hxs'; simp [hxs']
  subst hc
  have hcall := hsp.callable args.toArray w
  have hr : (execOp a.eval ⟨some d, .call ⟨.value fo, xs, tys⟩, ty, pos, af, none⟩).run P w = .ok (.enter f args.toArray) w := by
    unfold execOp
    simp only [resolve, Deferred.ofValue, hf.ev hfo, hx, Sem.run_bind, Sem.run_pure, Result.andThen_ok, invoke]
    rw [show (fst.toArray ++ vs.toArray ++ cap.toArray) = args.toArray from by rw [← hargs]; simp, hcall]
  refine .inr (.inr ⟨_, _, _, hr, (hsp.use2 hs hsel hro).mono ?_⟩)
  rintro e w' ⟨v, L', rfl, hpost, hst⟩
  exact ⟨v, rfl, _, _, hf.put hd v, hst, hk v L' hpost⟩
/-- A call that takes nothing and whose answer is certain: quiet. -/
theorem Ctr.quiet {f : FuncId} {args : List Value} {ro : HL} {post : Value → List HL → Prop} {v0 : Value} (hsp : Ctr P f args [] ro post) (hv : ∀ v L', post v L' → v = v0) (hro : ∀ p ∈ ro, p ∈ R) {w : World} (hs : St cx.w0 cx.S0 R Y w) :
    Calls P f args.toArray w fun e w' => e = .returned v0 ∧ St cx.w0 cx.S0 R Y w' ∧ Lf Y Y w w' := by
  refine (hsp.use2 hs (Sel.nil (L := Y)) (fun p hp => .inr (hro p hp))).mono ?_
  rintro e w' ⟨v, L', rfl, hpost, hst, hlf⟩
  refine ⟨by rw [hv v L' hpost], hst.perm (M := Y) (X := L'.flatten) ?_, hlf.1, hlf.2.1, fun b hb => .inl hb⟩
  simp only [List.flatten_append]
  exact List.perm_append_comm
theorem WD.callQ {d : Nat} {c : Call} {ty : TypeId} {pos : String} {af : Array Edge} {l : List Oper} {fo : Operand} {xs : Array Operand} {tys : Array TypeId}
    {f : FuncId} {fst vs cap args : List Value} {ro : HL} {post : Value → List HL → Prop} (v0 : Value)
    (hc : c = ⟨.value fo, xs, tys⟩) (hfo : ev? ρ fo = some (.func (.func f) fst.toArray cap.toArray)) (hxs : evs? ρ xs.toList = some vs) (hargs : fst ++ vs ++ cap = args) (hi : P.inits.idxOf? f = none)
    (hsp : Ctr P f args [] ro post) (hv : ∀ v L', post v L' → v = v0) (hro : ∀ p ∈ ro, p ∈ R) (hd : d < n)
    (hk : WD P n R cx ops el fl l ((d, v0) :: ρ) Y K) :
    WD P n R cx ops (.b false :: el) fl (⟨some d, .call c, ty, pos, af, none⟩ :: l) ρ Y K := by
  refine ⟨fun E F i a hl hf => ?_⟩
  obtain ⟨h1, h2, h3, h4⟩ := WD.tail_ hl
  have hn := hk.go E F (i + 1) _ h4 (hf.put hd v0)
  have hE : E i = false := h2
  have hF : F i = false := h3
  simp only [List.length_cons, List.range'_succ, SWr, h1, hE, hF, Bool.false_eq_true, if_false, eOp]
  refine ⟨v0, .inl ⟨by simp [Region.wanted], fun Y w hs => .inr ⟨f, args.toArray, w, ?_, hi, hsp.quiet hv hro hs⟩⟩, hn⟩
  have hxs' := hf.evs hxs
  have hx : xs.map a.eval = vs.toArray := by cases xs; simp at hxs'; simp [hxs']
  unfold execOp
  subst hc
  have hcall := hsp.callable
  simp only [resolve, Deferred.ofValue, hf.ev hfo, hx, Sem.run_bind, Sem.run_pure, Result.andThen_ok, invoke]
  rw [show (fst.toArray ++ vs.toArray ++ cap.toArray) = args.toArray from by rw [← hargs]; simp, hcall]
/-- A quiet operation that reads what an acting one has just made: taken as one that acts. -/
theorem WD.valA {d : Nat} {op : Op} {ty : TypeId} {pos : String} {af : Array Edge} {l : List Oper} {v : Value}
    (h : OpVal P n R cx op ty ρ Y v) (hd : d < n) (hk : WD P n R cx ops el fl l ((d, v) :: ρ) Y K) : WD P n R cx ops (.b true :: el) fl (⟨some d, op, ty, pos, af, none⟩ :: l) ρ Y K :=
  WD.act rfl fun a w hf hs => .inl ⟨_, _, h.go ⟨some d, op, ty, pos, af, none⟩ a w rfl rfl hf hs, _, _, hf.put hd v, ⟨hs, Lf.rfl'⟩, hk⟩
theorem WD.store {T : Tab} (hT : TabOk P T) {l : List Oper} {t ty : TypeId} {x y : Operand} {pos : String} {af : Array Edge} {b off m : Nat} {ag : Bool} {L' : List HL} {cl cl' vs : List Value} {e : TypeId} {v : Value}
    (hx : ev? ρ x = some (.pointer (some ⟨b, off, none⟩))) (hu : Upd b (.cells cl.toArray e (0, 0)) (.cells cl'.toArray e (0, 0)) Y L')
    (hy : ev? ρ y = some v) (hc : cells? v = some vs) (hz : look? T.tys t = some (ag, m)) (hl : vs.length = m) (h1 : allOne vs = true)
    (hv : splice? cl off vs = some cl')
    (hk : WD P n R cx ops el fl l ρ L' K) : WD P n R cx ops (.b true :: el) fl (⟨none, .store t x y, ty, pos, af, none⟩ :: l) ρ Y K := by
  refine WD.act rfl fun a w hf hs => ?_
  obtain ⟨A, B, e1, -⟩ := hu.split
  have hb : w.heap[b]? = some (.cells cl.toArray e (0, 0)) := hs.has (b, .cells cl.toArray e (0, 0)) (by rw [e1]; simp)
  have hst := run_storeCells_splice (P := P) hb hv h1
  have hcs := cells?_eq hc
  have hz' := (hT.tys _ (look?_mem hz)).2
  have hr : (execOp a.eval ⟨none, .store t x y, ty, pos, af, none⟩).run P w = .ok .skip (w.setRow b cl'.toArray) := by
    unfold execOp
    simp [hf.ev hx, hf.ev hy, Instr.storeAt, Instr.sureAddr, storeVar, hz' w, hcs, hl, hst]
  exact .inr (.inl ⟨_, hr, _, _, by simpa [Act.put] using hf, ⟨hs.upd hu (setRow_heap w b _ _ e _ hb) (fun j hj => setRow_other w b j _ hj) (setRow_size ..) ⟨rfl, rfl, rfl⟩, Lf.upd hu (fun j hj => setRow_other w b j _ hj) (setRow_size ..)⟩, hk⟩)
theorem WD.guardGo {e : Bool} {d : Option Nat} {op : Op} {ty : TypeId} {pos : String} {af : Array Edge} {l : List Oper} {j s : Nat} {want b : Bool}
    (hj : (ops[j]?).bind (·.dst) = some s) (hb : ρ.get? s = some (.bool b)) (hw : b = want)
    (h : ∀ E F i a, Marks ops E F (i + 1) el l → Fits n ρ a → Region.wanted ⟨d, op, ty, pos, af, some (j, want)⟩ (yielded ops a.tmps) = true →
      eOp P R cx ops e ⟨d, op, ty, pos, af, some (j, want)⟩ (SWr P R cx ops E F (KfOf n fl K) (List.range' (i + 1) l.length)) a Y) :
    WD P n R cx ops (.b e :: el) fl (⟨d, op, ty, pos, af, some (j, want)⟩ :: l) ρ Y K := by
  refine ⟨fun E F i a hl hf => ?_⟩
  obtain ⟨h1, h2, h3, h4⟩ := WD.tail_ hl
  have hy := yielded_of (all := ops) hf hj hb
  have hE : E i = e := h2
  have hF : F i = false := h3
  simp only [List.length_cons, List.range'_succ, SWr, h1, hE, hF, Bool.false_eq_true, if_false]
  exact h E F i a h4 hf (by simp [Region.wanted, hy, hw])
/-- A guarded operation that runs: as the same without a guard, of which the walk is given. -/
theorem WD.guardGoQ {d : Nat} {op : Op} {ty : TypeId} {pos : String} {af : Array Edge} {l : List Oper} {j s : Nat} {want b : Bool} {v : Value}
    (hj : (ops[j]?).bind (·.dst) = some s) (hb : ρ.get? s = some (.bool b)) (hw : b = want) (h : OpVal P n R cx op ty ρ [] v) (hd : d < n) (hk : WD P n R cx ops el fl l ((d, v) :: ρ) Y K) :
    WD P n R cx ops (.b false :: el) fl (⟨some d, op, ty, pos, af, some (j, want)⟩ :: l) ρ Y K :=
  WD.guardGo hj hb hw fun E F i a h3 hf hwt =>
    ⟨v, .inl ⟨hwt, fun Y w hs => .inl ⟨w, h.go ⟨some d, op, ty, pos, af, some (j, want)⟩ a w rfl rfl hf hs.less, hs, Lf.rfl'⟩⟩, hk.go E F (i + 1) _ h3 (hf.put hd v)⟩
theorem WD.guardGoCall {d : Nat} {c : Call} {ty : TypeId} {pos : String} {af : Array Edge} {l : List Oper} {j s : Nat} {want b : Bool} {fo : Operand} {xs : Array Operand} {tys : Array TypeId}
    {f : FuncId} {fst vs cap args : List Value} {pre rest : List HL} {ro : HL} {post : Value → List HL → Prop}
    (hj : (ops[j]?).bind (·.dst) = some s) (hb : ρ.get? s = some (.bool b)) (hw : b = want)
    (hc : c = ⟨.value fo, xs, tys⟩) (hfo : ev? ρ fo = some (.func (.func f) fst.toArray cap.toArray)) (hxs : evs? ρ xs.toList = some vs) (hargs : fst ++ vs ++ cap = args)
    (hsp : Ctr P f args pre ro post) (hsel : Sel Y pre rest) (hro : RoIn R rest ro) (hd : d < n)
    (hk : ∀ v L', post v L' → WD P n R cx ops el fl l ((d, v) :: ρ) (L' ++ rest) K) :
    WD P n R cx ops (.b true :: el) fl (⟨some d, .call c, ty, pos, af, some (j, want)⟩ :: l) ρ Y K := by
  refine WD.guardGo hj hb hw fun E F i a h3 hf hwt => .inl ⟨hwt, fun w hs => ?_⟩
  have hxs' := hf.evs hxs
  have hx : xs.map a.eval = vs.toArray := by cases xs; simp at hxs'; simp [hxs']
  subst hc
  have hcall := hsp.callable args.toArray w
  have hr : (execOp a.eval ⟨some d, .call ⟨.value fo, xs, tys⟩, ty, pos, af, some (j, want)⟩).run P w = .ok (.enter f args.toArray) w := by
    unfold execOp
    simp only [resolve, Deferred.ofValue, hf.ev hfo, hx, Sem.run_bind, Sem.run_pure, Result.andThen_ok, invoke]
    rw [show (fst.toArray ++ vs.toArray ++ cap.toArray) = args.toArray from by rw [← hargs]; simp, hcall]
  refine .inr (.inr ⟨_, _, _, hr, (hsp.use2 hs hsel hro).mono ?_⟩)
  rintro e w' ⟨v, L', rfl, hpost, hst⟩
  exact ⟨v, rfl, _, hst, (hk v L' hpost).go E F (i + 1) _ h3 (hf.put hd v)⟩
theorem WD.skip_ {e : Bool} {d : Nat} {op : Op} {ty : TypeId} {pos : String} {af : Array Edge} {l : List Oper} {g : Option (Nat × Bool)}
    (hg : ∀ a, Fits n ρ a → Region.wanted ⟨some d, op, ty, pos, af, g⟩ (yielded ops a.tmps) = false) (hd : d < n) (hk : WD P n R cx ops el fl l ((d, undef) :: ρ) Y K) :
    WD P n R cx ops (.b e :: el) fl (⟨some d, op, ty, pos, af, g⟩ :: l) ρ Y K := by
  refine ⟨fun E F i a hl hf => ?_⟩
  obtain ⟨h1, h2, h3, h4⟩ := WD.tail_ hl
  have hn := hk.go E F (i + 1) _ h4 (hf.put hd undef)
  have hE : E i = e := h2
  have hF : F i = false := h3
  simp only [List.length_cons, List.range'_succ, SWr, h1, hE, hF, Bool.false_eq_true, if_false]
  cases e with
  | false => exact ⟨undef, .inr ⟨hg a hf, rfl⟩, hn⟩
  | true => exact .inr ⟨hg a hf, hn⟩
theorem WD.guardSkip {e : Bool} {d : Nat} {op : Op} {ty : TypeId} {pos : String} {af : Array Edge} {l : List Oper} {j s : Nat} {want b : Bool}
    (hj : (ops[j]?).bind (·.dst) = some s) (hb : ρ.get? s = some (.bool b)) (hw : b = !want) (hd : d < n) (hk : WD P n R cx ops el fl l ((d, undef) :: ρ) Y K) :
    WD P n R cx ops (.b e :: el) fl (⟨some d, op, ty, pos, af, some (j, want)⟩ :: l) ρ Y K :=
  WD.skip_ (fun a hf => by have hy := yielded_of (all := ops) hf hj hb; simp only [Region.wanted, hy, hw]; cases want <;> simp) hd hk
theorem WD.guardUndef {e : Bool} {d : Nat} {op : Op} {ty : TypeId} {pos : String} {af : Array Edge} {l : List Oper} {j s : Nat} {want : Bool}
    (hj : (ops[j]?).bind (·.dst) = some s) (hb : ρ.get? s = some undef) (hd : d < n) (hk : WD P n R cx ops el fl l ((d, undef) :: ρ) Y K) :
    WD P n R cx ops (.b e :: el) fl (⟨some d, op, ty, pos, af, some (j, want)⟩ :: l) ρ Y K :=
  WD.skip_ (fun a hf => by have hy := yielded_of (all := ops) hf hj hb; simp [Region.wanted, hy, undef]) hd hk
def ddrive (T : Tab) (n : Nat) : List Kd → List Oper → Env → Option (List Kd × List Oper × Env)
  | el, [], ρ => some (el, [], ρ)
  | [], l, ρ => some ([], l, ρ)
  | e :: el, o :: l, ρ => match e with
    | .f => some (.f :: el, o :: l, ρ)
    | .b true => some (.b true :: el, o :: l, ρ)
    | .b false => match o with
      | ⟨some d, op, _, _, _, none⟩ => match pop? T ρ op with
        | some v => if Nat.blt d n then ddrive T n el l ((d, v) :: ρ) else none
        | none => some (.b false :: el, o :: l, ρ)
      | o => some (.b false :: el, o :: l, ρ)
theorem WD.drive {T : Tab} (hT : TabOk P T) : ∀ {el el' : List Kd} {l l' : List Oper} {ρ ρ' : Env}, ddrive T n el l ρ = some (el', l', ρ') → WD P n R cx ops el' fl l' ρ' Y K → WD P n R cx ops el fl l ρ Y K
  | el, el', [], l', ρ, ρ', e, h => by
    have : el = el' ∧ [] = l' ∧ ρ = ρ' := by cases el <;> simpa [ddrive] using e
    obtain ⟨rfl, rfl, rfl⟩ := this
    exact h
  | [], el', o :: l, l', ρ, ρ', e, h => by simp only [ddrive, Option.some.injEq, Prod.mk.injEq] at e; obtain ⟨rfl, rfl, rfl⟩ := e; exact h
  | b :: el, el', o :: l, l', ρ, ρ', e, h => by
    unfold ddrive at e
    split at e
    · simp only [Option.some.injEq, Prod.mk.injEq] at e; obtain ⟨rfl, rfl, rfl⟩ := e; exact h
    · simp only [Option.some.injEq, Prod.mk.injEq] at e; obtain ⟨rfl, rfl, rfl⟩ := e; exact h
    · split at e
      · split at e
        · rename_i v hv
          split at e
          · rename_i hd
            exact WD.val (pop_val hT hv) (by simpa using hd) (WD.drive hT e h)
          · cases e
        · simp only [Option.some.injEq, Prod.mk.injEq] at e; obtain ⟨rfl, rfl, rfl⟩ := e; exact h
      · simp only [Option.some.injEq, Prod.mk.injEq] at e; obtain ⟨rfl, rfl, rfl⟩ := e; exact h
theorem WD.step {T : Tab} (hT : TabOk P T) {el el' : List Kd} {l l' : List Oper} {ρ ρ' : Env} {Y' : List HL} (h1 : ddrive T n el l ρ = some (el', l', ρ')) (h2 : norm? Y = some Y') (h : WD P n R cx ops el' fl l' ρ' Y' K) :
    WD P n R cx ops el fl l ρ Y K := by
  rw [norm?_eq h2]
  exact WD.drive hT h1 h

/-- The chunks at the places 'is', and the others. -/
def part? (is : List Nat) : Nat → List HL → Option (List HL × List HL)
  | _, [] => some ([], [])
  | i, c :: L => match part? is (i + 1) L with
    | none => none
    | some (A, B) => if hasNat is i then some (c :: A, B) else some (A, c :: B)
theorem part?_perm {is : List Nat} : ∀ {i : Nat} {L A B : List HL}, part? is i L = some (A, B) → L.flatten.Perm (A.flatten ++ B.flatten)
  | _, [], A, B, h => by simp only [part?, Option.some.injEq, Prod.mk.injEq] at h; obtain ⟨rfl, rfl⟩ := h; simp
  | i, c :: L, A, B, h => by
    simp only [part?] at h
    split at h
    · cases h
    · rename_i A' B' hp
      have ih := part?_perm hp
      split at h
      · simp only [Option.some.injEq, Prod.mk.injEq] at h
        obtain ⟨rfl, rfl⟩ := h
        simp only [List.flatten_cons, List.append_assoc]
        exact List.Perm.append_left c ih
      · simp only [Option.some.injEq, Prod.mk.injEq] at h
        obtain ⟨rfl, rfl⟩ := h
        simp only [List.flatten_cons]
        refine (List.Perm.append_left c ih).trans ?_
        rw [← List.append_assoc, ← List.append_assoc]
        exact List.Perm.append_right _ List.perm_append_comm
theorem St.callP {w0 w w' : World} {S0 : List Nat} {L pre rest L' : List HL} {ro : HL} (hs : St w0 S0 R L w) (hp : L.flatten.Perm (pre.flatten ++ rest.flatten)) (hc : St w (ids pre.flatten) ro L' w') :
    St w0 S0 R (L' ++ rest) w' := by
  have h1 : St w0 S0 R (pre ++ rest) w := hs.perm (X := []) (by simpa using hp)
  have hc' : St w (ids ([pre.flatten] : List HL).flatten) ro L' w' := by simpa using hc
  have h2 : St w0 S0 R (pre.flatten :: rest) w := h1.perm (X := []) (by simp)
  exact h2.call (.cons .here .nil) hc'
theorem St.low {w0 w : World} {S0 : List Nat} {L A B : List HL} (hs : St w0 S0 R L w) (hp : L.flatten.Perm (A.flatten ++ B.flatten)) : St w (ids A.flatten) (B.flatten ++ R) A w := by
  have hi : (ids L.flatten).Perm (ids A.flatten ++ ids B.flatten) := by simpa [ids] using hp.map (·.1)
  obtain ⟨n1, n2, n3⟩ := List.nodup_append.1 (hi.nodup_iff.1 hs.nd)
  refine ⟨fun p hpm => hs.has p (hp.mem_iff.2 (by simp [hpm])), n1, fun _ _ _ => rfl, fun b hb => .inl hb, Nat.le_refl _, fun p hpm => ?_, ⟨rfl, rfl, rfl⟩⟩
  rcases List.mem_append.1 hpm with h1 | h1
  · exact ⟨hs.has p (hp.mem_iff.2 (by simp [h1])), fun hm => n3 _ hm _ (List.mem_map_of_mem (f := (·.1)) h1) rfl⟩
  · obtain ⟨h2, h3⟩ := hs.ro p h1
    have hlt := (Array.getElem?_eq_some_iff.1 h2).1
    refine ⟨by rw [hs.fr _ hlt h3]; exact h2, fun hm => ?_⟩
    rcases hs.own _ (hi.mem_iff.2 (List.mem_append.2 (.inl hm))) with h | h
    · exact h3 h
    · omega
/-- What those marked new make. -/
def floatsOf (T : Tab) : List Oper → List Kd → Option (List (Nat × Obj))
  | [], _ => some []
  | _ :: _, [] => some []
  | o :: l, k :: el => match k with
    | .b _ => floatsOf T l el
    | .f => match o with
      | ⟨some d, .alloc t, _, _, _, none⟩ => match look? T.zeros t with
        | some z => match cells? z with
          | some zs => match floatsOf T l el with
            | some r => some ((d, .cells zs.toArray t (0, 0)) :: r)
            | none => none
          | none => none
        | none => none
      | _ => none
/-- Nothing in the head is bound to what is new; no two new ones are kept in one place. -/
def floatB (ops : Array Oper) (F : Nat → Bool) (N : Nat) : Bool :=
  (List.range N).all fun j => !F j || (List.range N).all fun i => decide (i = j) || (match ops[j]?, ops[i]? with | some oj, some oi => oj.apart ops oi && oi.apart ops oj | _, _ => false)
theorem floatsOf_spec {T : Tab} (hT : TabOk P T) : ∀ {l : List Oper} {el : List Kd} {fl : List (Nat × Obj)}, floatsOf T l el = some fl →
    (∀ j, j < l.length → (el.getD j (.b false)).fl = true → ∃ oi d o, l[j]? = some oi ∧ oi.dst = some d ∧ oi.guard = none ∧ (d, o) ∈ fl ∧ ∀ (a : Act) (w : World), ∃ m, (execOp a.eval oi).run P w = .ok (.value (.pointer (some ⟨w.heap.size, 0, none⟩))) ({ w with drawn := m }.alloc o)) ∧
    (∀ q ∈ fl, ∃ j, j < l.length ∧ (el.getD j (.b false)).fl = true ∧ ∃ oi, l[j]? = some oi ∧ oi.dst = some q.1)
  | [], el, fl, h => by
    simp only [floatsOf, Option.some.injEq] at h; subst h
    exact ⟨fun j hj => by simp at hj, fun q hq => by cases hq⟩
  | o :: l, [], fl, h => by
    simp only [floatsOf, Option.some.injEq] at h; subst h
    exact ⟨fun j hj hf => by simp [Kd.fl] at hf, fun q hq => by cases hq⟩
  | o :: l, k :: el, fl, h => by
    have lift : ∀ {fl' : List (Nat × Obj)}, floatsOf T l el = some fl' → (∀ q ∈ fl', q ∈ fl) →
        (∀ j, j + 1 < (o :: l).length → ((k :: el).getD (j + 1) (.b false)).fl = true → ∃ oi d o', (o :: l)[j + 1]? = some oi ∧ oi.dst = some d ∧ oi.guard = none ∧ (d, o') ∈ fl ∧ ∀ (a : Act) (w : World), ∃ m, (execOp a.eval oi).run P w = .ok (.value (.pointer (some ⟨w.heap.size, 0, none⟩))) ({ w with drawn := m }.alloc o')) ∧
        (∀ q ∈ fl', ∃ j, j < (o :: l).length ∧ ((k :: el).getD j (.b false)).fl = true ∧ ∃ oi, (o :: l)[j]? = some oi ∧ oi.dst = some q.1) := by
      intro fl' h' hsub
      obtain ⟨i1, i2⟩ := floatsOf_spec hT h'
      refine ⟨fun j hj hf => ?_, fun q hq => ?_⟩
      · obtain ⟨oi, d, o', e1, e2, e3, e4, e5⟩ := i1 j (by simpa using hj) (by simpa using hf)
        exact ⟨oi, d, o', by simpa using e1, e2, e3, hsub _ e4, e5⟩
      · obtain ⟨j, e1, e2, oi, e3, e4⟩ := i2 q hq
        exact ⟨j + 1, by simpa using e1, by simpa using e2, oi, by simpa using e3, e4⟩
    simp only [floatsOf] at h
    split at h
    · obtain ⟨i1, i2⟩ := lift h (fun q hq => hq)
      refine ⟨fun j hj hf => ?_, i2⟩
      cases j with
      | zero => simp [Kd.fl] at hf
      | succ j => exact i1 j hj hf
    · split at h
      · rename_i d t ty pos af
        split at h
        · rename_i z hz
          split at h
          · rename_i zs hzs
            split at h
            · rename_i r hr
              cases h
              obtain ⟨i1, i2⟩ := lift hr (fun q hq => List.mem_cons_of_mem _ hq)
              refine ⟨fun j hj hf => ?_, fun q hq => ?_⟩
              · cases j with
                | zero =>
                  refine ⟨_, d, _, rfl, rfl, rfl, List.mem_cons_self, fun a w => ⟨w.drawn, ?_⟩⟩
                  have hz' := hT.zeros _ (look?_mem hz)
                  unfold execOp
                  show _ = Result.ok _ (w.alloc _)
                  simp [Instr.alloc, hz' w, newVar, newRow, cells?_eq hzs]
                | succ j => exact i1 j hj hf
              · rcases List.mem_cons.1 hq with rfl | hq
                · exact ⟨0, by simp, by simp [Kd.fl], _, rfl, rfl⟩
                · exact i2 q hq
            · cases h
          · cases h
        · cases h
      · cases h
/-- A region that draws its order and acts: the chunks at 'is' are what it acts on, the others stay as they are. -/
theorem W.drawH {T : Tab} (hT : TabOk P T) {L X : List HL} {fl : List (Nat × Obj)} (N : Nat) (el : List Kd) (is : List Nat) {id : Nat} {l : List Oper} (hm : P.follows .mixedOrders = true) (hB : drawB l.toArray (fun j => (el.getD j (.b false)).act) N = true)
    (hfB : floatB l.toArray (fun j => (el.getD j (.b false)).fl) N = true) (hfl : floatsOf T (l.take N) el = some fl) (hnd : (fl.map (·.1)).Nodup) (hp : part? is 0 L = some (Y, X))
    (h : ∀ cx' : Cx, WD P n (X.flatten ++ R) cx' l.toArray el fl (l.take N) ρ Y (fun ρ' Y' => W P n R cx (.ops l.toArray (l.drop N) :: k) ρ' (Y' ++ X))) : W P n R cx (.code (.region id l.toArray true) :: k) ρ L := by
  refine ⟨fun a w hf hs => ?_⟩
  have hperm := part?_perm hp
  have hs1 := hs.drawn (w.drawn + 1)
  have hlow := hs1.low hperm
  simp only [mean]
  refine wp_region_any hm ?_
  let cx' : Cx := ⟨{ w with drawn := w.drawn + 1 }, ids Y.flatten, fun _ _ _ => False⟩
  have hN : N ≤ l.length := by
    simp only [drawB, Bool.and_eq_true, decide_eq_true_eq] at hB
    simpa using hB.1.1.1.2
  have hlen : (l.take N).length = N := by simp; omega
  have hS := (h cx').go (fun j => (el.getD j (.b false)).act) (fun j => (el.getD j (.b false)).fl) 0 a (fun j hj => by rw [hlen] at hj; simp [hj]) hf
  rw [hlen] at hS
  obtain ⟨f1, f2⟩ := floatsOf_spec hT hfl
  have hget : ∀ i, i < N → l.toArray[i]? = (l.take N)[i]? := fun i hi => by simp [hi]
  have hapart : ∀ i j, i < N → j < N → i ≠ j → (el.getD j (.b false)).fl = true → ∀ oi oj, l.toArray[i]? = some oi → l.toArray[j]? = some oj → oj.apart l.toArray oi = true ∧ oi.apart l.toArray oj = true := by
    intro i j hi hj hij hFj oi oj hoi hoj
    have h1 := List.all_eq_true.1 hfB j (by simpa using hj)
    simp only [hFj, Bool.not_true, Bool.false_or] at h1
    have h2 := List.all_eq_true.1 h1 i (by simpa using hi)
    simp only [Bool.or_eq_true, decide_eq_true_eq] at h2
    have h3 := h2.resolve_left hij
    rw [hoi, hoj] at h3
    simpa using h3
  have hflok : FlOk P l.toArray (fun j => (el.getD j (.b false)).fl) N fl := by
    refine ⟨hnd, fun i hi hFi => ?_, fun i hi hFi oi hoi q hq => ?_, fun i j hi hj hFi hFj oi oj hoi hoj hd => ?_, fun q hq => ?_⟩
    · obtain ⟨oi, d, o, e1, e2, e3, e4, e5⟩ := f1 i (by rw [hlen]; exact hi) hFi
      exact ⟨oi, d, o, by rw [hget i hi]; exact e1, e2, e3, e4, e5⟩
    · obtain ⟨j, e1, e2, oj, e3, e4⟩ := f2 q hq
      rw [hlen] at e1
      have hij : i ≠ j := by rintro rfl; simp only [hFi] at e2; cases e2
      obtain ⟨a1, a2⟩ := hapart i j hi e1 hij e2 oi oj hoi (by rw [hget j e1]; exact e3)
      obtain ⟨p1, p2, p3⟩ := Oper.apart_spec a1
      exact ⟨p1 _ e4, p2 _ e4⟩
    · refine Classical.byContradiction fun hij => ?_
      obtain ⟨a1, a2⟩ := hapart i j hi hj hij hFj oi oj hoi hoj
      obtain ⟨oi', d, o, e1, e2, _⟩ := f1 i (by rw [hlen]; exact hi) hFi
      rw [← hget i hi, hoi] at e1
      cases e1
      obtain ⟨p1, p2, p3⟩ := Oper.apart_spec a1
      exact p2 d (by rw [← hd, e2]) e2
    · obtain ⟨j, e1, e2, oj, e3, e4⟩ := f2 q hq
      rw [hlen] at e1
      exact ⟨j, e1, e2, oj, by rw [hget j e1]; exact e3, e4⟩
  have hno := putO_none (a := a) (fl := fl)
  have := any_of_swr (P := P) (R := X.flatten ++ R) (cx := cx') (ops := l.toArray) (E := fun j => (el.getD j (.b false)).act) (F := fun j => (el.getD j (.b false)).fl) (N := N) (Q := mean P n R cx k) (fl := fl)
    (Kf := KfOf n fl (fun ρ' Y' => W P n R cx (.ops l.toArray (l.drop N) :: k) ρ' (Y' ++ X))) hflok hB (by
      intro a' Y' β w' hKf hs'
      obtain ⟨ρ', hf', hW⟩ := hKf β
      have := hW.go _ w' hf' (hs1.callP hperm hs')
      simpa [mean] using this) N (List.range' 0 N) (Array.replicate l.toArray.size false) a Y (fun _ => none) { w with drawn := w.drawn + 1 } (by simp) ⟨by simp, List.pairwise_lt_range', by simp, ?_, ?_, ?_⟩ (by
        intro i hi _ _ _ _ _
        simp [hi]) (by rw [hno.2]; exact hlow.perm (X := []) (by simp)) hS
  · rw [hno.1, show N + (l.toArray.size - N) = l.toArray.size from by simp; omega] at this
    exact this
  · intro i hi
    have : i < l.toArray.size := by simp; omega
    rw [getD_tf (by simpa using this)]
    simp [hi]
  · intro i _ hi
    rw [getD_tf (by simpa using hi)]
    simp
  · intro i o ho hl
    have hi := (Array.getElem?_eq_some_iff.1 ho).1
    rw [getD_tf (by simpa using hi)] at hl
    simp at hl
/-- The same in two heads: what the first one makes new is at hand in the second one. -/
theorem W.drawG {T : Tab} (hT : TabOk P T) {L X : List HL} {fl : List (Nat × Obj)} (N N2 : Nat) (el el2 : List Kd) (is : List Nat) {id : Nat} {l : List Oper} (hm : P.follows .mixedOrders = true) (h12 : N ≤ N2) (hel : el.length = N) (hB : drawB l.toArray (fun j => ((el ++ el2).getD j (.b false)).act) N2 = true) (htB : tailB l.toArray (fun j => ((el ++ el2).getD j (.b false)).act) (fun j => ((el ++ el2).getD j (.b false)).fl) N = true) (hno2 : ∀ k ∈ el2, k.fl = false)
    (hfB : floatB l.toArray (fun j => ((el ++ el2).getD j (.b false)).fl) N = true) (hfl : floatsOf T (l.take N) el = some fl) (hnd : (fl.map (·.1)).Nodup) (hp : part? is 0 L = some (Y, X))
    (h : ∀ cx' : Cx, WD P n (X.flatten ++ R) cx' l.toArray el fl (l.take N) ρ Y (fun ρ' Y' => WD P n (X.flatten ++ R) cx' l.toArray el2 [] ((l.drop N).take (N2 - N)) ρ' Y' (fun ρ' Y' => W P n R cx (.ops l.toArray (l.drop N2) :: k) ρ' (Y' ++ X)))) : W P n R cx (.code (.region id l.toArray true) :: k) ρ L := by
  refine ⟨fun a w hf hs => ?_⟩
  have hperm := part?_perm hp
  have hs1 := hs.drawn (w.drawn + 1)
  have hlow := hs1.low hperm
  simp only [mean]
  refine wp_region_any hm ?_
  let cx' : Cx := ⟨{ w with drawn := w.drawn + 1 }, ids Y.flatten, fun _ _ _ => False⟩
  have hN2 : N2 ≤ l.length := by
    simp only [drawB, Bool.and_eq_true, decide_eq_true_eq] at hB
    simpa using hB.1.1.1.2
  have hN : N ≤ l.length := by omega
  have hlo : ∀ j, j < N → (el ++ el2).getD j (.b false) = el.getD j (.b false) := fun j hj => by
    rw [List.getD_eq_getElem?_getD, List.getD_eq_getElem?_getD, List.getElem?_append_left (by omega)]
  have hhi : ∀ j, (el ++ el2).getD (N + j) (.b false) = el2.getD j (.b false) := fun j => by
    rw [List.getD_eq_getElem?_getD, List.getD_eq_getElem?_getD, List.getElem?_append_right (by omega), hel, Nat.add_sub_cancel_left]
  have hlen : (l.take N).length = N := by simp; omega
  have hS := (h cx').go (fun j => ((el ++ el2).getD j (.b false)).act) (fun j => ((el ++ el2).getD j (.b false)).fl) 0 a (fun j hj => by rw [hlen] at hj; rw [Nat.zero_add]; dsimp only; rw [hlo j hj]; simp [hj]) hf
  rw [hlen] at hS
  obtain ⟨f1, f2⟩ := floatsOf_spec hT hfl
  have hget : ∀ i, i < N → l.toArray[i]? = (l.take N)[i]? := fun i hi => by simp [hi]
  have hapart : ∀ i j, i < N → j < N → i ≠ j → ((el ++ el2).getD j (.b false)).fl = true → ∀ oi oj, l.toArray[i]? = some oi → l.toArray[j]? = some oj → oj.apart l.toArray oi = true ∧ oi.apart l.toArray oj = true := by
    intro i j hi hj hij hFj oi oj hoi hoj
    have h1 := List.all_eq_true.1 hfB j (by simpa using hj)
    simp only [hFj, Bool.not_true, Bool.false_or] at h1
    have h2 := List.all_eq_true.1 h1 i (by simpa using hi)
    simp only [Bool.or_eq_true, decide_eq_true_eq] at h2
    have h3 := h2.resolve_left hij
    rw [hoi, hoj] at h3
    simpa using h3
  have hflok : FlOk P l.toArray (fun j => ((el ++ el2).getD j (.b false)).fl) N fl := by
    refine ⟨hnd, fun i hi hFi => ?_, fun i hi hFi oi hoi q hq => ?_, fun i j hi hj hFi hFj oi oj hoi hoj hd => ?_, fun q hq => ?_⟩
    · obtain ⟨oi, d, o, e1, e2, e3, e4, e5⟩ := f1 i (by rw [hlen]; exact hi) (by rw [← hlo i hi]; exact hFi)
      exact ⟨oi, d, o, by rw [hget i hi]; exact e1, e2, e3, e4, e5⟩
    · obtain ⟨j, e1, e2, oj, e3, e4⟩ := f2 q hq
      rw [hlen] at e1
      rw [← hlo j e1] at e2
      have hij : i ≠ j := by rintro rfl; simp only [hFi] at e2; cases e2
      obtain ⟨a1, a2⟩ := hapart i j hi e1 hij e2 oi oj hoi (by rw [hget j e1]; exact e3)
      obtain ⟨p1, p2, p3⟩ := Oper.apart_spec a1
      exact ⟨p1 _ e4, p2 _ e4⟩
    · refine Classical.byContradiction fun hij => ?_
      obtain ⟨a1, a2⟩ := hapart i j hi hj hij hFj oi oj hoi hoj
      obtain ⟨oi', d, o, e1, e2, _⟩ := f1 i (by rw [hlen]; exact hi) (by rw [← hlo i hi]; exact hFi)
      rw [← hget i hi, hoi] at e1
      cases e1
      obtain ⟨p1, p2, p3⟩ := Oper.apart_spec a1
      exact p2 d (by rw [← hd, e2]) e2
    · obtain ⟨j, e1, e2, oj, e3, e4⟩ := f2 q hq
      rw [hlen] at e1
      exact ⟨j, e1, by rw [hlo j e1]; exact e2, oj, by rw [hget j e1]; exact e3, e4⟩
  have hno := putO_none (a := a) (fl := fl)
  have := any_of_swrG (P := P) (R := X.flatten ++ R) (cx := cx') (ops := l.toArray) (E := fun j => ((el ++ el2).getD j (.b false)).act) (F := fun j => ((el ++ el2).getD j (.b false)).fl) (N1 := N) (N2 := N2) (Q := mean P n R cx k) (fl := fl)
    (Kf := KfOf n fl (fun ρ' Y' => WD P n (X.flatten ++ R) cx' l.toArray el2 [] ((l.drop N).take (N2 - N)) ρ' Y' (fun ρ' Y' => W P n R cx (.ops l.toArray (l.drop N2) :: k) ρ' (Y' ++ X))))
    (Kf2 := KfOf n [] (fun ρ' Y' => W P n R cx (.ops l.toArray (l.drop N2) :: k) ρ' (Y' ++ X))) hflok h12 hB htB (by
      intro a' Y' β hKf
      obtain ⟨ρ', hf', hW⟩ := hKf β
      have hl2 : ((l.drop N).take (N2 - N)).length = N2 - N := by simp; omega
      have := hW.go (fun j => ((el ++ el2).getD j (.b false)).act) (fun _ => false) N _ (fun j hj => by
        rw [hl2] at hj
        have hnf : (el2.getD j (.b false)).fl = false := by
          rw [List.getD_eq_getElem?_getD]
          cases hx : el2[j]? with
          | none => rfl
          | some kd => exact hno2 _ (List.mem_of_getElem? hx)
        dsimp only
        rw [hhi j, hnf]
        refine ⟨?_, rfl, rfl⟩
        rw [List.getElem?_take, if_pos hj, List.getElem?_drop]
        simp) hf'
      rw [hl2] at this
      exact this) (by
      intro a' Y' w' hKf hs'
      obtain ⟨ρ', hf', hW⟩ := hKf (fun _ => 0)
      have := hW.go _ w' hf' (hs1.callP hperm hs')
      simpa [mean, putT] using this) N (List.range' 0 N) (Array.replicate l.toArray.size false) a Y (fun _ => none) { w with drawn := w.drawn + 1 } (by simp) ⟨by simp, List.pairwise_lt_range', by simp, ?_, ?_, ?_⟩ (by
        intro i hi _ _ _ _ _
        simp [hi]) (by rw [hno.2]; exact hlow.perm (X := []) (by simp)) hS
  · rw [hno.1, show N + (l.toArray.size - N) = l.toArray.size from by simp; omega] at this
    exact this
  · intro i hi
    have : i < l.toArray.size := by simp; omega
    rw [getD_tf (by simpa using this)]
    simp [hi]
  · intro i _ hi
    rw [getD_tf (by simpa using hi)]
    simp
  · intro i o ho hl
    have hi := (Array.getElem?_eq_some_iff.1 ho).1
    rw [getD_tf (by simpa using hi)] at hl
    simp at hl
end
end Go.Sl
