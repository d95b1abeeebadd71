/-
  A region that draws its order and acts: loads of chunks that it leaves alone commute with all, what acts stands in one row, and so one walk in the order of the text serves every order; over any program.
-/
import Derived.Test.YtdhjmeoppmpilaaSr
namespace Go.Sl
open Go
section
variable {P : Program} {R : HL} {cx : Cx} {ops : Array Oper} {E : Nat → Bool} {Kf : Act → List HL → Prop}

def acts (P : Program) (o : Oper) (a : Act) (w : World) (N : Act → World → Prop) : Prop :=
  (∃ v w', (execOp a.eval o).run P w = .ok (.value v) w' ∧ N (a.put o.dst v) w') ∨ (∃ w', (execOp a.eval o).run P w = .ok .skip w' ∧ N (a.put o.dst undef) w') ∨
  ∃ f args w', (execOp a.eval o).run P w = .ok (.enter f args) w' ∧ Calls P f args w' fun e w'' => ∃ v, e = .returned v ∧ N (a.put o.dst v) w''
theorem acts_of_same {o : Oper} {a a' : Act} {w : World} {N N' : Act → World → Prop} (he : execOp a'.eval o = execOp a.eval o) (h : ∀ v w', N (a.put o.dst v) w' → N' (a'.put o.dst v) w') (hh : acts P o a w N) : acts P o a' w N' := by
  unfold acts at *
  rw [he]
  rcases hh with ⟨v, w', hr, hn⟩ | ⟨w', hr, hn⟩ | ⟨f, args, w', hr, hn⟩
  · exact .inl ⟨v, w', hr, h _ _ hn⟩
  · exact .inr (.inl ⟨w', hr, h _ _ hn⟩)
  · exact .inr (.inr ⟨f, args, w', hr, hn.mono fun e w'' ⟨v, he, hn⟩ => ⟨v, he, h _ _ hn⟩⟩)
theorem acts_mono {o : Oper} {a : Act} {w : World} {N N' : Act → World → Prop} (h : ∀ v w, N (a.put o.dst v) w → N' (a.put o.dst v) w) (hh : acts P o a w N) : acts P o a w N' := acts_of_same rfl h hh
theorem acts_some {o : Oper} {a : Act} {w : World} {N : Act → World → Prop} (hh : acts P o a w N) : ∃ v w', N (a.put o.dst v) w' := by
  rcases hh with ⟨v, w', hr, hn⟩ | ⟨w', hr, hn⟩ | ⟨f, args, w', hr, hn⟩
  · exact ⟨_, _, hn⟩
  · exact ⟨_, _, hn⟩
  · obtain ⟨e, w'', fr, ⟨v, _, hn⟩, _⟩ := hn []
    exact ⟨_, _, hn⟩
theorem acts_wp {o : Oper} {a : Act} {w : World} {N : Act → World → Prop} {Q : Exit → Act → World → Prop} (hh : acts P o a w N) : o.wp P a w N Q := by
  unfold Oper.wp
  rcases hh with ⟨v, w', hr, hn⟩ | ⟨w', hr, hn⟩ | ⟨f, args, w', hr, hn⟩
  · rw [hr]; exact hn
  · rw [hr]; exact hn
  · rw [hr]; exact hn.mono fun e w'' ⟨v, he, hn⟩ => by subst he; exact hn

/-- A quiet operation yields 'v' in whatever world that fits. -/
def QVal (P : Program) (R : HL) (cx : Cx) (ops : Array Oper) (o : Oper) (v : Value) (a : Act) : Prop :=
  (Region.wanted o (yielded ops a.tmps) = true ∧ ∀ Y w, St cx.w0 cx.S0 R Y w → (execOp a.eval o).run P w = .ok (.value v) w) ∨ (Region.wanted o (yielded ops a.tmps) = false ∧ v = undef)
theorem QVal.of_same {o : Oper} {v : Value} {a a' : Act} (h : QVal P R cx ops o v a) (he : execOp a'.eval o = execOp a.eval o) (hw : Region.wanted o (yielded ops a'.tmps) = Region.wanted o (yielded ops a.tmps)) :
    QVal P R cx ops o v a' := by unfold QVal at *; rw [he, hw]; exact h
theorem QVal.unique {o : Oper} {v v' : Value} {a : Act} (h : QVal P R cx ops o v a) (h' : QVal P R cx ops o v' a) {Y : List HL} {w : World} (hs : St cx.w0 cx.S0 R Y w) : v = v' := by
  rcases h with ⟨h1, h2⟩ | ⟨h1, h2⟩ <;> rcases h' with ⟨h3, h4⟩ | ⟨h3, h4⟩
  · have := (h2 Y w hs).symm.trans (h4 Y w hs)
    simpa using this
  · rw [h1] at h3; cases h3
  · rw [h1] at h3; cases h3
  · rw [h2, h4]

def eOp (P : Program) (R : HL) (cx : Cx) (ops : Array Oper) (eff : Bool) (o : Oper) (K : Act → List HL → Prop) (a : Act) (Y : List HL) : Prop :=
  match eff with
  | false => ∃ v, QVal P R cx ops o v a ∧ K (a.put o.dst v) Y
  | true => (Region.wanted o (yielded ops a.tmps) = true ∧ ∀ w, St cx.w0 cx.S0 R Y w → acts P o a w fun a' w' => ∃ Y', St cx.w0 cx.S0 R Y' w' ∧ K a' Y') ∨
      (Region.wanted o (yielded ops a.tmps) = false ∧ K (a.put o.dst undef) Y)
def SWr (P : Program) (R : HL) (cx : Cx) (ops : Array Oper) (E : Nat → Bool) (Kf : Act → List HL → Prop) : List Nat → Act → List HL → Prop
  | [] => Kf
  | i :: r => fun a Y => match ops[i]? with
    | none => SWr P R cx ops E Kf r a Y
    | some o => eOp P R cx ops (E i) o (SWr P R cx ops E Kf r) a Y

variable (hsel : ∀ (j : Nat) (o : Oper) cs b, ops[j]? = some o → o.op ≠ .select cs b)
include hsel
/-- A quiet operation may be taken ahead of those that are apart from it. -/
theorem extQ {i : Nat} {oi : Oper} (hi : ops[i]? = some oi) (hE : E i = false) : ∀ (A B : List Nat) (a : Act) (Y : List HL) (w : World), (∀ j ∈ A, ∀ oj, ops[j]? = some oj → oj.apart ops oi = true) →
    St cx.w0 cx.S0 R Y w → SWr P R cx ops E Kf (A ++ i :: B) a Y → ∃ v, QVal P R cx ops oi v a ∧ SWr P R cx ops E Kf (A ++ B) (a.put oi.dst v) Y
  | [], B, a, Y, w, _, _, h => by
    simp only [List.nil_append, SWr, hi, hE, eOp] at h
    exact h
  | j :: A, B, a, Y, w, hap, hs, h => by
    simp only [List.cons_append, SWr] at h ⊢
    cases hj : ops[j]? with
    | none =>
      simp only [hj] at h ⊢
      exact extQ hi hE A B a Y w (fun k hk => hap k (by simp [hk])) hs h
    | some oj =>
      simp only [hj] at h ⊢
      obtain ⟨p1, p2, p3⟩ := Oper.apart_spec (hap j (by simp) oj hj)
      have hap' : ∀ k ∈ A, ∀ ok, ops[k]? = some ok → ok.apart ops oi = true := fun k hk => hap k (by simp [hk])
      have down : ∀ u v, QVal P R cx ops oi v (a.put oj.dst u) → QVal P R cx ops oi v a := fun u v hq =>
        hq.of_same (execOp_put oi (fun cs b => hsel i oi cs b hi) a oj.dst u p1).symm (wanted_put oi a oj.dst u p1).symm
      have ej : ∀ v, execOp (a.put oi.dst v).eval oj = execOp a.eval oj := fun v => execOp_put oj (fun cs b => hsel j oj cs b hj) a oi.dst v p3
      have wj : ∀ v, Region.wanted oj (yielded ops (a.put oi.dst v).tmps) = Region.wanted oj (yielded ops a.tmps) := fun v => wanted_put oj a oi.dst v p3
      have pc : ∀ u v, (a.put oj.dst u).put oi.dst v = (a.put oi.dst v).put oj.dst u := fun u v => Act.put_comm a u v p2
      cases hEj : E j with
      | false =>
        simp only [hEj, eOp] at h ⊢
        obtain ⟨u, hqu, hK⟩ := h
        obtain ⟨v, hqv, hS⟩ := extQ hi hE A B _ Y w hap' hs hK
        exact ⟨v, down u v hqv, u, hqu.of_same (ej v) (wj v), by rw [← pc]; exact hS⟩
      | true =>
        simp only [hEj, eOp] at h ⊢
        rcases h with ⟨hw, hact⟩ | ⟨hw, hK⟩
        · obtain ⟨u, w', Y', hs', hK⟩ := acts_some (hact w hs)
          obtain ⟨v, hqv, _⟩ := extQ hi hE A B _ Y' w' hap' hs' hK
          have hqa := down u v hqv
          refine ⟨v, hqa, .inl ⟨by rw [wj]; exact hw, fun w1 hs1 => ?_⟩⟩
          refine acts_of_same (ej v) ?_ (hact w1 hs1)
          rintro u1 w1' ⟨Y1, hs1', hK1⟩
          obtain ⟨v1, hqv1, hS1⟩ := extQ hi hE A B _ Y1 w1' hap' hs1' hK1
          have : v1 = v := (down u1 v1 hqv1).unique hqa hs
          subst this
          exact ⟨Y1, hs1', by rw [← pc]; exact hS1⟩
        · obtain ⟨v, hqv, hS⟩ := extQ hi hE A B _ Y w hap' hs hK
          exact ⟨v, down undef v hqv, .inr ⟨by rw [wj]; exact hw, by rw [← pc]; exact hS⟩⟩
/-- What acts may be taken ahead of quiet ones that are apart from it. -/
theorem extE {i : Nat} {oi : Oper} (hi : ops[i]? = some oi) (hE : E i = true) : ∀ (A B : List Nat) (a : Act) (Y : List HL), (∀ j ∈ A, E j = false ∧ ∀ oj, ops[j]? = some oj → oj.apart ops oi = true) →
    SWr P R cx ops E Kf (A ++ i :: B) a Y → eOp P R cx ops true oi (SWr P R cx ops E Kf (A ++ B)) a Y
  | [], B, a, Y, _, h => by
    simp only [List.nil_append, SWr, hi, hE] at h
    exact h
  | j :: A, B, a, Y, hap, h => by
    simp only [List.cons_append, SWr] at h ⊢
    cases hj : ops[j]? with
    | none =>
      simp only [hj] at h ⊢
      exact extE hi hE A B a Y (fun k hk => hap k (by simp [hk])) h
    | some oj =>
      simp only [hj] at h ⊢
      obtain ⟨hEj, hapj⟩ := hap j (by simp)
      obtain ⟨p1, p2, p3⟩ := Oper.apart_spec (hapj oj hj)
      simp only [hEj, eOp] at h ⊢
      obtain ⟨u, hqu, hK⟩ := h
      have ih := extE hi hE A B _ Y (fun k hk => hap k (by simp [hk])) hK
      have ei : execOp (a.put oj.dst u).eval oi = execOp a.eval oi := execOp_put oi (fun cs b => hsel i oi cs b hi) a oj.dst u p1
      have wi : Region.wanted oi (yielded ops (a.put oj.dst u).tmps) = Region.wanted oi (yielded ops a.tmps) := wanted_put oi a oj.dst u p1
      have qj : ∀ v, QVal P R cx ops oj u (a.put oi.dst v) := fun v => hqu.of_same (execOp_put oj (fun cs b => hsel j oj cs b hj) a oi.dst v p3) (wanted_put oj a oi.dst v p3)
      have pc : ∀ v, (a.put oj.dst u).put oi.dst v = (a.put oi.dst v).put oj.dst u := fun v => Act.put_comm a u v p2
      simp only [eOp] at ih
      rcases ih with ⟨hw, hact⟩ | ⟨hw, hS⟩
      · refine .inl ⟨by rw [← wi]; exact hw, fun w hs => ?_⟩
        refine acts_of_same ei.symm ?_ (hact w hs)
        rintro v w' ⟨Y', hs', hS⟩
        exact ⟨Y', hs', u, qj v, by rw [← pc]; exact hS⟩
      · exact .inr ⟨by rw [← wi]; exact hw, u, qj undef, by rw [← pc]; exact hS⟩
omit hsel

/-! ### Which operations wait for which -/
def maskOf (acc : List Nat) (o : Oper) : Nat := o.after.toList.foldl (fun s e => if Region.binds .any e then s ||| (2 ^ e.on ||| acc.getD e.on 0) else s) 0
def masks : List Oper → List Nat → List Nat
  | [], acc => acc
  | o :: l, acc => masks l (acc ++ [maskOf acc o])
theorem foldl_mask (acc : List Nat) (j : Nat) : ∀ (es : List Edge) (s : Nat), (es.foldl (fun s e => if Region.binds .any e then s ||| (2 ^ e.on ||| acc.getD e.on 0) else s) s).testBit j = true →
    s.testBit j = true ∨ ∃ e ∈ es, Region.binds .any e = true ∧ (e.on = j ∨ (acc.getD e.on 0).testBit j = true)
  | [], s, h => .inl h
  | e :: es, s, h => by
    simp only [List.foldl_cons] at h
    rcases foldl_mask acc j es _ h with h1 | ⟨e', he', h1⟩
    · split at h1
      · rename_i hb
        simp only [Nat.testBit_or, Bool.or_eq_true, Nat.testBit_two_pow, decide_eq_true_eq] at h1
        rcases h1 with h1 | h1 | h1
        · exact .inl h1
        · exact .inr ⟨e, by simp, hb, .inl h1⟩
        · exact .inr ⟨e, by simp, hb, .inr h1⟩
      · exact .inl h1
    · exact .inr ⟨e', by simp [he'], h1⟩
theorem masks_get : ∀ (l : List Oper) (acc : List Nat) (i : Nat) , i < acc.length → (masks l acc)[i]? = acc[i]?
  | [], _, _, _ => rfl
  | o :: l, acc, i, hi => by rw [masks, masks_get l _ i (by simp; omega), List.getElem?_append_left hi]
theorem masks_at : ∀ (l : List Oper) (acc : List Nat) (i : Nat) (o : Oper), l[i]? = some o → ∃ acc' : List Nat, (masks l acc)[acc.length + i]? = some (maskOf acc' o) ∧ ∀ k, k < acc.length + i → acc'[k]? = (masks l acc)[k]? 
  | [], _, _, _, h => by simp at h
  | o' :: l, acc, 0, o, h => by
    simp at h
    subst h
    refine ⟨acc, ?_, fun k hk => ?_⟩
    · rw [masks, masks_get _ _ _ (by simp)]; simp
    · rw [masks, masks_get _ _ _ (by simp at hk ⊢; omega), List.getElem?_append_left (by omega)]
  | o' :: l, acc, i + 1, o, h => by
    obtain ⟨acc', h1, h2⟩ := masks_at l (acc ++ [maskOf acc o']) i o (by simpa using h)
    refine ⟨acc', ?_, fun k hk => ?_⟩
    · rw [masks, ← h1]; congr 1; simp; omega
    · rw [masks]; exact h2 k (by simp; omega)
/-- Every edge leads back. -/
def low (ops : Array Oper) : Bool := (List.range ops.size).all fun i => match ops[i]? with | none => true | some o => o.after.all fun e => !Region.binds .any e || decide (e.on < i)
def waits (ops : Array Oper) (i j : Nat) : Bool := ((masks ops.toList []).getD i 0).testBit j
theorem waits_listed {listed : Array Bool} (hlow : low ops = true) (hdown : ∀ i o, ops[i]? = some o → listed.getD i true = true → ∀ e ∈ o.after, Region.binds .any e = true → listed.getD e.on false = true) :
    ∀ (i j : Nat) (o : Oper), ops[i]? = some o → (∀ e ∈ o.after, Region.binds .any e = true → listed.getD e.on false = true) → waits ops i j = true → listed.getD j false = true := by
  intro i
  induction i using Nat.strongRecOn with
  | _ i ih =>
    intro j o ho hdeps hw
    obtain ⟨acc', h1, h2⟩ := masks_at ops.toList [] i o (by simpa using ho)
    simp only [List.length_nil, Nat.zero_add] at h1 h2
    unfold waits at hw
    rw [List.getD_eq_getElem?_getD, h1] at hw
    simp only [Option.getD_some, maskOf] at hw
    rcases foldl_mask acc' j _ _ hw with h3 | ⟨e, he, hb, h3⟩
    · simp at h3
    · have hem : e ∈ o.after := by simpa using he
      have hl := hdeps e hem hb
      rcases h3 with rfl | h3
      · exact hl
      · have hlt : e.on < i := by
          have := List.all_eq_true.1 hlow i (by simp; exact (Array.getElem?_eq_some_iff.1 ho).1)
          simp only [ho] at this
          have := Array.all_eq_true_iff_forall_mem.1 this e hem
          simpa [hb] using this
        have hon : e.on < ops.size := by have := (Array.getElem?_eq_some_iff.1 ho).1; omega
        have ho2 : ops[e.on]? = some ops[e.on] := Array.getElem?_eq_getElem hon
        have hl2 : listed.getD e.on true = true := by
          simp only [Array.getD_eq_getD_getElem?] at hl ⊢
          cases hx : listed[e.on]? with
          | none => simp
          | some b => rw [hx] at hl; simpa using hl
        refine ih e.on hlt j _ ho2 (hdown e.on _ ho2 hl2) ?_
        unfold waits
        rw [List.getD_eq_getElem?_getD, ← h2 e.on hlt, ← List.getD_eq_getElem?_getD]
        exact h3

/-- The head's operations: any two of them wait, or are apart and do not both act; all behind the head wait for it, and stand in one row. -/
def drawB (ops : Array Oper) (E : Nat → Bool) (N : Nat) : Bool :=
  low ops && Region.noSelect ops && decide (N ≤ ops.size) &&
  ((List.range N).all fun i => (List.range i).all fun j => waits ops i j || (match ops[j]?, ops[i]? with | some oj, some oi => oj.apart ops oi && !(E i && E j) | _, _ => false)) &&
  ((List.range ops.size).all fun i => decide (i < N) || (List.range N).all fun j => waits ops i j) &&
  Region.seqB .any ops (ops.size - N) N (((List.replicate N true) ++ (List.replicate (ops.size - N) false)).toArray)
structure Good (ops : Array Oper) (N : Nat) (rem : List Nat) (listed : Array Bool) : Prop where
  sz : listed.size = ops.size
  sorted : rem.Pairwise (· < ·)
  lt : ∀ i ∈ rem, i < N
  un : ∀ i, i < N → (listed.getD i true = false ↔ i ∈ rem)
  tl : ∀ i, N ≤ i → i < ops.size → listed.getD i true = false
  down : ∀ i o, ops[i]? = some o → listed.getD i true = true → ∀ e ∈ o.after, Region.binds .any e = true → listed.getD e.on false = true

theorem getD_tf {listed : Array Bool} {i : Nat} (hi : i < listed.size) (b : Bool) : listed.getD i b = listed[i] := by simp [Array.getD, hi]
theorem any_of_swr {N : Nat} {Q : Exit → Act → World → Prop} (hB : drawB ops E N = true)
    (hK : ∀ a Y w, Kf a Y → St cx.w0 cx.S0 R Y w → wpList P ops Q (ops.toList.drop N) a w) : ∀ (m : Nat) (rem : List Nat) (listed : Array Bool) (a : Act) (Y : List HL) (w : World), rem.length = m → Good ops N rem listed →
      St cx.w0 cx.S0 R Y w → SWr P R cx ops E Kf rem a Y → wpAny P .any ops Q (m + (ops.size - N)) listed a w := by
  simp only [drawB, Bool.and_eq_true, decide_eq_true_eq] at hB
  obtain ⟨⟨⟨⟨⟨hlow, hns⟩, hN⟩, hpair⟩, htail⟩, hseq⟩ := hB
  have hsel := Region.noSelect_spec hns
  intro m
  induction m with
  | zero =>
    intro rem listed a Y w hm hg hs h
    have hr : rem = [] := List.eq_nil_of_length_eq_zero hm
    subst hr
    have hl : listed = ((List.replicate N true) ++ (List.replicate (ops.size - N) false)).toArray := by
      apply Array.ext
      · simp [hg.sz]; omega
      · intro i h1 h2
        by_cases hi : i < N
        · have := (hg.un i hi)
          rw [getD_tf h1] at this
          simp only [List.not_mem_nil, iff_false, Bool.not_eq_false] at this
          simp [this, hi]
        · have := hg.tl i (by omega) (by rw [← hg.sz]; exact h1)
          rw [getD_tf h1] at this
          simp only [this, List.getElem_toArray]
          rw [List.getElem_append_right (by simp; omega)]
          simp
    have hwl := hK a Y w h hs
    have hlen : (ops.toList.drop N).length = ops.size - N := by simp
    have := wpAny_of_seq (md := .any) (Q' := Q) (ops.toList.drop N) N listed a w (fun j => by simp [List.getElem?_drop]) (by rw [hlen, hl]; exact hseq) hwl
    rw [hlen] at this
    rw [Nat.zero_add]
    exact this
  | succ m ih =>
    intro rem listed a Y w hm hg hs h
    have hready : ∀ i, i ∈ Region.ready .any ops listed → i ∈ rem := by
      intro i hi
      obtain ⟨h1, o, ho, hdeps⟩ := mem_ready.1 hi
      have hisz := (Array.getElem?_eq_some_iff.1 ho).1
      by_cases hiN : i < N
      · exact (hg.un i hiN).1 h1
      · exfalso
        obtain ⟨j, hj⟩ : ∃ j, j ∈ rem := by cases rem with | nil => simp at hm | cons x r => exact ⟨x, by simp⟩
        have hw := List.all_eq_true.1 htail i (by simpa using hisz)
        simp only [Bool.or_eq_true, decide_eq_true_eq] at hw
        have hw2 := List.all_eq_true.1 (hw.resolve_left hiN) j (by simpa using hg.lt j hj)
        have h3 := waits_listed hlow hg.down i j o ho hdeps hw2
        have h4 := (hg.un j (hg.lt j hj)).2 hj
        have hjs : j < listed.size := by have := hg.lt j hj; have := hg.sz; omega
        rw [getD_tf hjs] at h3 h4
        rw [h3] at h4; cases h4
    rw [show m + 1 + (ops.size - N) = (m + (ops.size - N)) + 1 from by omega]
    refine ⟨fun h0 => ?_, fun i hi => ?_⟩
    · exfalso
      cases rem with
      | nil => simp at hm
      | cons i0 r =>
        have hi0N := hg.lt i0 (by simp)
        have hi0 : i0 < ops.size := by omega
        have : i0 ∈ Region.ready .any ops listed := by
          refine mem_ready.2 ⟨(hg.un i0 hi0N).2 (by simp), ops[i0], Array.getElem?_eq_getElem hi0, fun e he hb => ?_⟩
          have hl := List.all_eq_true.1 hlow i0 (by simpa using hi0)
          simp only [Array.getElem?_eq_getElem hi0] at hl
          have hl2 := Array.all_eq_true_iff_forall_mem.1 hl e he
          simp only [hb, Bool.not_true, Bool.false_or, decide_eq_true_eq] at hl2
          have hnot : e.on ∉ i0 :: r := by
            intro hm'
            rcases List.mem_cons.1 hm' with h' | h'
            · omega
            · have := (List.pairwise_cons.1 hg.sorted).1 e.on h'
              omega
          have h5 := (hg.un e.on (by omega))
          have hes : e.on < listed.size := by rw [hg.sz]; omega
          rw [getD_tf hes] at h5 ⊢
          cases hx : listed[e.on] with
          | true => rfl
          | false => exact absurd (h5.1 hx) hnot
        rw [h0] at this; cases this
    · obtain ⟨h1, oi, hoi, hdeps⟩ := mem_ready.1 hi
      obtain ⟨A, B, hAB⟩ := List.append_of_mem (hready i hi)
      have hiN := hg.lt i (hready i hi)
      have hsz : i < listed.size := by rw [hg.sz]; omega
      have hA : ∀ j ∈ A, j < i ∧ j ∈ rem := by
        intro j hj
        have := hg.sorted
        rw [hAB, List.pairwise_append] at this
        exact ⟨this.2.2 j hj i (by simp), by rw [hAB]; simp [hj]⟩
      have hpr : ∀ j ∈ A, (∀ oj, ops[j]? = some oj → oj.apart ops oi = true) ∧ (E i && E j) = false := by
        intro j hj
        obtain ⟨hji, hjr⟩ := hA j hj
        have hp := List.all_eq_true.1 (List.all_eq_true.1 hpair i (by simpa using hiN)) j (by simpa using hji)
        rcases Bool.or_eq_true _ _ ▸ hp with hp | hp
        · exfalso
          have h3 := waits_listed hlow hg.down i j oi hoi hdeps hp
          have h4 := (hg.un j (hg.lt j hjr)).2 hjr
          have hjs : j < listed.size := by have := hg.lt j hjr; have := hg.sz; omega
          rw [getD_tf hjs] at h3 h4
          rw [h3] at h4; cases h4
        · rw [hoi] at hp
          split at hp
          · rename_i oj oi' hoj hoi'
            cases hoi'
            simp only [Bool.and_eq_true, Bool.not_eq_true'] at hp
            exact ⟨fun oj' ho' => by rw [hoj] at ho'; cases ho'; exact hp.1, hp.2⟩
          · cases hp
      have hg' : Good ops N (A ++ B) (listed.setIfInBounds i true) := by
        have hnd : rem.Nodup := hg.sorted.imp (fun h => by omega)
        refine ⟨by simp [hg.sz], ?_, ?_, ?_, ?_, ?_⟩
        · have := hg.sorted
          rw [hAB] at this
          exact this.sublist (List.Sublist.append (List.Sublist.refl A) (List.sublist_cons_self i B))
        · intro j hj; exact hg.lt j (by rw [hAB]; rcases List.mem_append.1 hj with h | h <;> simp [h])
        · intro j hjN
          have hjs : j < listed.size := by have := hg.sz; omega
          have h5 := hg.un j hjN
          rw [getD_tf hjs] at h5
          rw [getD_tf (by simpa using hjs), Array.getElem_setIfInBounds (by simpa using hjs)]
          by_cases hij : i = j
          · subst hij
            rw [if_pos rfl]
            rw [hAB, List.nodup_append] at hnd
            simp only [Bool.true_eq_false, false_iff, List.mem_append, not_or]
            exact ⟨fun hm => hnd.2.2 i hm i (by simp) rfl, (List.nodup_cons.1 hnd.2.1).1⟩
          · rw [if_neg hij, h5, hAB]
            simp only [List.mem_append, List.mem_cons]
            constructor
            · rintro (h | h | h)
              · exact .inl h
              · exact absurd h.symm hij
              · exact .inr h
            · rintro (h | h)
              · exact .inl h
              · exact .inr (.inr h)
        · intro j hjN hjs
          have hjs' : j < listed.size := by rw [hg.sz]; exact hjs
          have := hg.tl j hjN hjs
          rw [getD_tf hjs'] at this
          rw [getD_tf (by simpa using hjs'), Array.getElem_setIfInBounds (by simpa using hjs'), if_neg (by omega)]
          exact this
        · intro j o ho hlj e he hb
          have hjs : j < listed.size := by rw [hg.sz]; exact (Array.getElem?_eq_some_iff.1 ho).1
          have keep : listed.getD e.on false = true → (listed.setIfInBounds i true).getD e.on false = true := by
            intro hx
            by_cases hes : e.on < listed.size
            · rw [getD_tf hes] at hx
              rw [getD_tf (by simpa using hes), Array.getElem_setIfInBounds (by simpa using hes)]
              split
              · rfl
              · exact hx
            · simp only [Array.getD_eq_getD_getElem?, Array.getElem?_eq_none (Nat.le_of_not_lt hes)] at hx
              simp at hx
          rw [getD_tf (by simpa using hjs), Array.getElem_setIfInBounds (by simpa using hjs)] at hlj
          by_cases hij : i = j
          · subst hij
            rw [hoi] at ho
            cases ho
            exact keep (hdeps e he hb)
          · rw [if_neg hij] at hlj
            exact keep (hg.down j o ho (by rw [getD_tf hjs]; exact hlj) e he hb)
      have hlenAB : (A ++ B).length = m := by rw [hAB] at hm; simp at hm ⊢; omega
      rw [hAB] at h
      unfold wpOp
      rw [hoi]
      cases hE : E i with
      | false =>
        obtain ⟨v, hq, hS⟩ := extQ hsel hoi hE A B a Y w (fun j hj => (hpr j hj).1) hs h
        have hnext := ih (A ++ B) _ (a.put oi.dst v) Y w hlenAB hg' hs hS
        rcases hq with ⟨hw, hrun⟩ | ⟨hw, rfl⟩
        · simp only [hw, if_true]
          refine .inl ?_
          unfold Oper.wp
          rw [hrun Y w hs]
          exact hnext
        · simp only [hw, Bool.false_eq_true, if_false]
          exact hnext
      | true =>
        have he := extE hsel hoi hE A B a Y (fun j hj => by have := hpr j hj; rw [hE, Bool.true_and] at this; exact ⟨this.2, this.1⟩) h
        simp only [eOp] at he
        rcases he with ⟨hw, hact⟩ | ⟨hw, hS⟩
        · simp only [hw, if_true]
          refine .inl (acts_wp (acts_mono ?_ (hact w hs)))
          rintro v w' ⟨Y', hs', hS⟩
          exact ih (A ++ B) _ _ Y' w' hlenAB hg' hs' hS
        · simp only [hw, Bool.false_eq_true, if_false]
          exact ih (A ++ B) _ _ Y w hlenAB hg' hs hS

/-! ### One walk for every order -/
variable {n : Nat} {k : List Kont} {ρ : Env} {Y : List HL}
/-- What is left of the head: the operations l, of which those marked in 'el' act. -/
structure WD (P : Program) (n : Nat) (R : HL) (cx : Cx) (ops : Array Oper) (el : List Bool) (l : List Oper) (ρ : Env) (Y : List HL) (K : Env → List HL → Prop) : Prop where
  go : ∀ (E : Nat → Bool) (i : Nat) (a : Act), (∀ j, j < l.length → ops[i + j]? = l[j]? ∧ E (i + j) = el.getD j false) → Fits n ρ a →
    SWr P R cx ops E (fun a Y => ∃ ρ', Fits n ρ' a ∧ K ρ' Y) (List.range' i l.length) a Y
variable {K : Env → List HL → Prop} {el : List Bool}
theorem WD.nil (h : K ρ Y) : WD P n R cx ops el [] ρ Y K := ⟨fun _ _ _ _ hf => ⟨ρ, hf, h⟩⟩
theorem WD.tail_ {e : Bool} {o : Oper} {l : List Oper} {E : Nat → Bool} {i : Nat} (h : ∀ j, j < (o :: l).length → ops[i + j]? = (o :: l)[j]? ∧ E (i + j) = (e :: el).getD j false) :
    ops[i]? = some o ∧ E i = e ∧ ∀ j, j < l.length → ops[i + 1 + j]? = l[j]? ∧ E (i + 1 + j) = el.getD j false := by
  refine ⟨by simpa using (h 0 (by simp)).1, by simpa using (h 0 (by simp)).2, fun j hj => ?_⟩
  have := h (j + 1) (by simpa using hj)
  rw [show i + (j + 1) = i + 1 + j from by omega] at this
  simpa using this
theorem St.less {w0 w : World} {S0 : List Nat} {Y : List HL} (hs : St w0 S0 R Y w) : St w0 S0 R [] w := hs.perm (M := []) (X := Y.flatten) (by simp)
theorem WD.val {d : Nat} {op : Op} {ty : TypeId} {pos : String} {af : Array Edge} {l : List Oper} {v : Value} (h : OpVal P n R cx op ty ρ [] v) (hd : d < n) (hk : WD P n R cx ops el l ((d, v) :: ρ) Y K) :
    WD P n R cx ops (false :: el) (⟨some d, op, ty, pos, af, none⟩ :: l) ρ Y K := by
  refine ⟨fun E i a hl hf => ?_⟩
  obtain ⟨h1, h2, h3⟩ := WD.tail_ hl
  have hn := hk.go E (i + 1) _ h3 (hf.put hd v)
  simp only [List.length_cons, List.range'_succ, SWr, h1, h2, eOp]
  exact ⟨v, .inl ⟨by simp [Region.wanted], fun Y w hs => h.go ⟨some d, op, ty, pos, af, none⟩ a w rfl rfl hf hs.less⟩, hn⟩
/-- An operation that acts. -/
theorem WD.act {o : Oper} {l : List Oper} (hg : o.guard = none)
    (h : ∀ a w, Fits n ρ a → St cx.w0 cx.S0 R Y w → acts P o a w fun a' w' => ∃ ρ' Y', Fits n ρ' a' ∧ St cx.w0 cx.S0 R Y' w' ∧ WD P n R cx ops el l ρ' Y' K) :
    WD P n R cx ops (true :: el) (o :: l) ρ Y K := by
  refine ⟨fun E i a hl hf => ?_⟩
  obtain ⟨h1, h2, h3⟩ := WD.tail_ hl
  simp only [List.length_cons, List.range'_succ, SWr, h1, h2, eOp]
  refine .inl ⟨by simp [Region.wanted, hg], fun w hs => acts_mono ?_ (h a w hf hs)⟩
  rintro v w' ⟨ρ', Y', hf', hs', hk⟩
  exact ⟨Y', hs', hk.go E (i + 1) _ h3 hf'⟩
theorem WD.prim {d : Nat} {op : Op} {ty : TypeId} {pos : String} {af : Array Edge} {l : List Oper} {pre rest : List HL} {post : Value → List HL → Prop}
    (h : Prim P n R cx op ty ρ Y pre post) (hsel : Sel Y pre rest) (hd : d < n) (hk : ∀ v L', post v L' → WD P n R cx ops el l ((d, v) :: ρ) (L' ++ rest) K) :
    WD P n R cx ops (true :: el) (⟨some d, op, ty, pos, af, none⟩ :: l) ρ Y K := by
  refine WD.act rfl fun a w hf hs => ?_
  obtain ⟨v, L', w', hr, hp, hst⟩ := h.go ⟨some d, op, ty, pos, af, none⟩ a w rfl rfl hf hs
  exact .inl ⟨_, _, hr, _, _, hf.put hd v, hs.call hsel hst, hk v L' hp⟩
theorem WD.primU {op : Op} {ty : TypeId} {pos : String} {af : Array Edge} {l : List Oper} {pre rest : List HL} {post : Value → List HL → Prop}
    (h : Prim P n R cx op ty ρ Y pre post) (hsel : Sel Y pre rest) (hk : ∀ v L', post v L' → WD P n R cx ops el l ρ (L' ++ rest) K) :
    WD P n R cx ops (true :: el) (⟨none, op, ty, pos, af, none⟩ :: l) ρ Y K := by
  refine WD.act rfl fun a w hf hs => ?_
  obtain ⟨v, L', w', hr, hp, hst⟩ := h.go ⟨none, op, ty, pos, af, none⟩ a w rfl rfl hf hs
  exact .inl ⟨_, _, hr, _, _, by simpa [Act.put] using hf, hs.call hsel hst, hk v L' hp⟩
theorem WD.new_ {d : Nat} {op : Op} {ty : TypeId} {pos : String} {af : Array Edge} {l : List Oper} {o : Obj} {f : Nat → Value} (h : NewOf P n R cx op ty ρ Y o f) (hd : d < n)
    (hk : ∀ b, WD P n R cx ops el l ((d, f b) :: ρ) ([(b, o)] :: Y) K) : WD P n R cx ops (true :: el) (⟨some d, op, ty, pos, af, none⟩ :: l) ρ Y K := by
  refine WD.act rfl fun a w hf hs => ?_
  obtain ⟨m, hr⟩ := h.go ⟨some d, op, ty, pos, af, none⟩ a w rfl rfl hf hs
  have hs' : St cx.w0 cx.S0 R Y { w with drawn := m } := ⟨hs.has, hs.nd, hs.fr, hs.own, hs.sz, hs.ro, hs.env⟩
  exact .inl ⟨_, _, hr, _, _, hf.put hd _, hs'.new o, hk w.heap.size⟩
theorem WD.call {d : Nat} {c : Call} {ty : TypeId} {pos : String} {af : Array Edge} {l : List Oper} {fo : Operand} {xs : Array Operand} {tys : Array TypeId}
    {f : FuncId} {fst vs cap args : List Value} {pre rest : List HL} {ro : HL} {post : Value → List HL → Prop}
    (hc : c = ⟨.value fo, xs, tys⟩) (hfo : ev? ρ fo = some (.func (.func f) fst.toArray cap.toArray)) (hxs : evs? ρ xs.toList = some vs) (hargs : fst ++ vs ++ cap = args)
    (hsp : Ctr P f args pre ro post) (hsel : Sel Y pre rest) (hro : RoIn R rest ro) (hd : d < n)
    (hk : ∀ v L', post v L' → WD P n R cx ops el l ((d, v) :: ρ) (L' ++ rest) K) :
    WD P n R cx ops (true :: el) (⟨some d, .call c, ty, pos, af, none⟩ :: l) ρ Y K := by
  refine WD.act rfl fun a w hf hs => ?_
  have hxs' := hf.evs hxs
  have hx : xs.map a.eval = vs.toArray := by cases xs; simp at hxs'; simp [hxs']
  subst hc
  have hcall := hsp.callable args.toArray w
  have hr : (execOp a.eval ⟨some d, .call ⟨.value fo, xs, tys⟩, ty, pos, af, none⟩).run P w = .ok (.enter f args.toArray) w := by
    unfold execOp
    simp only [resolve, Deferred.ofValue, hf.ev hfo, hx, Sem.run_bind, Sem.run_pure, Result.andThen_ok, invoke]
    rw [show (fst.toArray ++ vs.toArray ++ cap.toArray) = args.toArray from by rw [← hargs]; simp, hcall]
  refine .inr (.inr ⟨_, _, _, hr, (hsp.use hs hsel hro).mono ?_⟩)
  rintro e w' ⟨v, L', rfl, hpost, hst⟩
  exact ⟨v, rfl, _, _, hf.put hd v, hst, hk v L' hpost⟩
theorem WD.store {T : Tab} (hT : TabOk P T) {l : List Oper} {t ty : TypeId} {x y : Operand} {pos : String} {af : Array Edge} {b off m : Nat} {ag : Bool} {L' : List HL} {cl cl' vs : List Value} {e : TypeId} {v : Value}
    (hx : ev? ρ x = some (.pointer (some ⟨b, off, none⟩))) (hu : Upd b (.cells cl.toArray e (0, 0)) (.cells cl'.toArray e (0, 0)) Y L')
    (hy : ev? ρ y = some v) (hc : cells? v = some vs) (hz : look? T.tys t = some (ag, m)) (hl : vs.length = m) (h1 : allOne vs = true)
    (hv : splice? cl off vs = some cl')
    (hk : WD P n R cx ops el l ρ L' K) : WD P n R cx ops (true :: el) (⟨none, .store t x y, ty, pos, af, none⟩ :: l) ρ Y K := by
  refine WD.act rfl fun a w hf hs => ?_
  obtain ⟨A, B, e1, -⟩ := hu.split
  have hb : w.heap[b]? = some (.cells cl.toArray e (0, 0)) := hs.has (b, .cells cl.toArray e (0, 0)) (by rw [e1]; simp)
  have hst := run_storeCells_splice (P := P) hb hv h1
  have hcs := cells?_eq hc
  have hz' := (hT.tys _ (look?_mem hz)).2
  have hr : (execOp a.eval ⟨none, .store t x y, ty, pos, af, none⟩).run P w = .ok .skip (w.setRow b cl'.toArray) := by
    unfold execOp
    simp [hf.ev hx, hf.ev hy, Instr.storeAt, Instr.sureAddr, storeVar, hz' w, hcs, hl, hst]
  exact .inr (.inl ⟨_, hr, _, _, by simpa [Act.put] using hf, hs.upd hu (setRow_heap w b _ _ e _ hb) (fun j hj => setRow_other w b j _ hj) (setRow_size ..) ⟨rfl, rfl, rfl⟩, hk⟩)
theorem WD.guardGo {e : Bool} {d : Option Nat} {op : Op} {ty : TypeId} {pos : String} {af : Array Edge} {l : List Oper} {j s : Nat} {want b : Bool}
    (hj : (ops[j]?).bind (·.dst) = some s) (hb : ρ.get? s = some (.bool b)) (hw : b = want)
    (h : ∀ E i a, (∀ j', j' < l.length → ops[i + 1 + j']? = l[j']? ∧ E (i + 1 + j') = el.getD j' false) → Fits n ρ a → Region.wanted ⟨d, op, ty, pos, af, some (j, want)⟩ (yielded ops a.tmps) = true →
      eOp P R cx ops e ⟨d, op, ty, pos, af, some (j, want)⟩ (SWr P R cx ops E (fun a Y => ∃ ρ', Fits n ρ' a ∧ K ρ' Y) (List.range' (i + 1) l.length)) a Y) :
    WD P n R cx ops (e :: el) (⟨d, op, ty, pos, af, some (j, want)⟩ :: l) ρ Y K := by
  refine ⟨fun E i a hl hf => ?_⟩
  obtain ⟨h1, h2, h3⟩ := WD.tail_ hl
  have hy := yielded_of (all := ops) hf hj hb
  simp only [List.length_cons, List.range'_succ, SWr, h1, h2]
  exact h E i a h3 hf (by simp [Region.wanted, hy, hw])
/-- A guarded operation that runs: as the same without a guard, of which the walk is given. -/
theorem WD.guardGoQ {d : Nat} {op : Op} {ty : TypeId} {pos : String} {af : Array Edge} {l : List Oper} {j s : Nat} {want b : Bool} {v : Value}
    (hj : (ops[j]?).bind (·.dst) = some s) (hb : ρ.get? s = some (.bool b)) (hw : b = want) (h : OpVal P n R cx op ty ρ [] v) (hd : d < n) (hk : WD P n R cx ops el l ((d, v) :: ρ) Y K) :
    WD P n R cx ops (false :: el) (⟨some d, op, ty, pos, af, some (j, want)⟩ :: l) ρ Y K :=
  WD.guardGo hj hb hw fun E i a h3 hf hwt =>
    ⟨v, .inl ⟨hwt, fun Y w hs => h.go ⟨some d, op, ty, pos, af, some (j, want)⟩ a w rfl rfl hf hs.less⟩, hk.go E (i + 1) _ h3 (hf.put hd v)⟩
theorem WD.guardGoCall {d : Nat} {c : Call} {ty : TypeId} {pos : String} {af : Array Edge} {l : List Oper} {j s : Nat} {want b : Bool} {fo : Operand} {xs : Array Operand} {tys : Array TypeId}
    {f : FuncId} {fst vs cap args : List Value} {pre rest : List HL} {ro : HL} {post : Value → List HL → Prop}
    (hj : (ops[j]?).bind (·.dst) = some s) (hb : ρ.get? s = some (.bool b)) (hw : b = want)
    (hc : c = ⟨.value fo, xs, tys⟩) (hfo : ev? ρ fo = some (.func (.func f) fst.toArray cap.toArray)) (hxs : evs? ρ xs.toList = some vs) (hargs : fst ++ vs ++ cap = args)
    (hsp : Ctr P f args pre ro post) (hsel : Sel Y pre rest) (hro : RoIn R rest ro) (hd : d < n)
    (hk : ∀ v L', post v L' → WD P n R cx ops el l ((d, v) :: ρ) (L' ++ rest) K) :
    WD P n R cx ops (true :: el) (⟨some d, .call c, ty, pos, af, some (j, want)⟩ :: l) ρ Y K := by
  refine WD.guardGo hj hb hw fun E i a h3 hf hwt => .inl ⟨hwt, fun w hs => ?_⟩
  have hxs' := hf.evs hxs
  have hx : xs.map a.eval = vs.toArray := by cases xs; simp at hxs'; simp [hxs']
  subst hc
  have hcall := hsp.callable args.toArray w
  have hr : (execOp a.eval ⟨some d, .call ⟨.value fo, xs, tys⟩, ty, pos, af, some (j, want)⟩).run P w = .ok (.enter f args.toArray) w := by
    unfold execOp
    simp only [resolve, Deferred.ofValue, hf.ev hfo, hx, Sem.run_bind, Sem.run_pure, Result.andThen_ok, invoke]
    rw [show (fst.toArray ++ vs.toArray ++ cap.toArray) = args.toArray from by rw [← hargs]; simp, hcall]
  refine .inr (.inr ⟨_, _, _, hr, (hsp.use hs hsel hro).mono ?_⟩)
  rintro e w' ⟨v, L', rfl, hpost, hst⟩
  exact ⟨v, rfl, _, hst, (hk v L' hpost).go E (i + 1) _ h3 (hf.put hd v)⟩
theorem WD.skip_ {e : Bool} {d : Nat} {op : Op} {ty : TypeId} {pos : String} {af : Array Edge} {l : List Oper} {g : Option (Nat × Bool)}
    (hg : ∀ a, Fits n ρ a → Region.wanted ⟨some d, op, ty, pos, af, g⟩ (yielded ops a.tmps) = false) (hd : d < n) (hk : WD P n R cx ops el l ((d, undef) :: ρ) Y K) :
    WD P n R cx ops (e :: el) (⟨some d, op, ty, pos, af, g⟩ :: l) ρ Y K := by
  refine ⟨fun E i a hl hf => ?_⟩
  obtain ⟨h1, h2, h3⟩ := WD.tail_ hl
  have hn := hk.go E (i + 1) _ h3 (hf.put hd undef)
  simp only [List.length_cons, List.range'_succ, SWr, h1, h2]
  cases e with
  | false => exact ⟨undef, .inr ⟨hg a hf, rfl⟩, hn⟩
  | true => exact .inr ⟨hg a hf, hn⟩
theorem WD.guardSkip {e : Bool} {d : Nat} {op : Op} {ty : TypeId} {pos : String} {af : Array Edge} {l : List Oper} {j s : Nat} {want b : Bool}
    (hj : (ops[j]?).bind (·.dst) = some s) (hb : ρ.get? s = some (.bool b)) (hw : b = !want) (hd : d < n) (hk : WD P n R cx ops el l ((d, undef) :: ρ) Y K) :
    WD P n R cx ops (e :: el) (⟨some d, op, ty, pos, af, some (j, want)⟩ :: l) ρ Y K :=
  WD.skip_ (fun a hf => by have hy := yielded_of (all := ops) hf hj hb; simp only [Region.wanted, hy, hw]; cases want <;> simp) hd hk
theorem WD.guardUndef {e : Bool} {d : Nat} {op : Op} {ty : TypeId} {pos : String} {af : Array Edge} {l : List Oper} {j s : Nat} {want : Bool}
    (hj : (ops[j]?).bind (·.dst) = some s) (hb : ρ.get? s = some undef) (hd : d < n) (hk : WD P n R cx ops el l ((d, undef) :: ρ) Y K) :
    WD P n R cx ops (e :: el) (⟨some d, op, ty, pos, af, some (j, want)⟩ :: l) ρ Y K :=
  WD.skip_ (fun a hf => by have hy := yielded_of (all := ops) hf hj hb; simp [Region.wanted, hy, undef]) hd hk
def ddrive (T : Tab) (n : Nat) : List Bool → List Oper → Env → Option (List Bool × List Oper × Env)
  | el, [], ρ => some (el, [], ρ)
  | [], l, ρ => some ([], l, ρ)
  | e :: el, o :: l, ρ => match e with
    | true => some (true :: el, o :: l, ρ)
    | false => match o with
      | ⟨some d, op, _, _, _, none⟩ => match pop? T ρ op with
        | some v => if Nat.blt d n then ddrive T n el l ((d, v) :: ρ) else none
        | none => some (false :: el, o :: l, ρ)
      | o => some (false :: el, o :: l, ρ)
theorem WD.drive {T : Tab} (hT : TabOk P T) : ∀ {el el' : List Bool} {l l' : List Oper} {ρ ρ' : Env}, ddrive T n el l ρ = some (el', l', ρ') → WD P n R cx ops el' l' ρ' Y K → WD P n R cx ops el l ρ Y K
  | el, el', [], l', ρ, ρ', e, h => by
    have : el = el' ∧ [] = l' ∧ ρ = ρ' := by cases el <;> simpa [ddrive] using e
    obtain ⟨rfl, rfl, rfl⟩ := this
    exact h
  | [], el', o :: l, l', ρ, ρ', e, h => by simp only [ddrive, Option.some.injEq, Prod.mk.injEq] at e; obtain ⟨rfl, rfl, rfl⟩ := e; exact h
  | b :: el, el', o :: l, l', ρ, ρ', e, h => by
    unfold ddrive at e
    split at e
    · simp only [Option.some.injEq, Prod.mk.injEq] at e; obtain ⟨rfl, rfl, rfl⟩ := e; exact h
    · split at e
      · split at e
        · rename_i v hv
          split at e
          · rename_i hd
            exact WD.val (pop_val hT hv) (by simpa using hd) (WD.drive hT e h)
          · cases e
        · simp only [Option.some.injEq, Prod.mk.injEq] at e; obtain ⟨rfl, rfl, rfl⟩ := e; exact h
      · simp only [Option.some.injEq, Prod.mk.injEq] at e; obtain ⟨rfl, rfl, rfl⟩ := e; exact h
theorem WD.step {T : Tab} (hT : TabOk P T) {el el' : List Bool} {l l' : List Oper} {ρ ρ' : Env} {Y' : List HL} (h1 : ddrive T n el l ρ = some (el', l', ρ')) (h2 : norm? Y = some Y') (h : WD P n R cx ops el' l' ρ' Y' K) :
    WD P n R cx ops el l ρ Y K := by
  rw [norm?_eq h2]
  exact WD.drive hT h1 h

/-- The chunks at the places 'is', and the others. -/
def part? (is : List Nat) : Nat → List HL → Option (List HL × List HL)
  | _, [] => some ([], [])
  | i, c :: L => match part? is (i + 1) L with
    | none => none
    | some (A, B) => if hasNat is i then some (c :: A, B) else some (A, c :: B)
theorem part?_perm {is : List Nat} : ∀ {i : Nat} {L A B : List HL}, part? is i L = some (A, B) → L.flatten.Perm (A.flatten ++ B.flatten)
  | _, [], A, B, h => by simp only [part?, Option.some.injEq, Prod.mk.injEq] at h; obtain ⟨rfl, rfl⟩ := h; simp
  | i, c :: L, A, B, h => by
    simp only [part?] at h
    split at h
    · cases h
    · rename_i A' B' hp
      have ih := part?_perm hp
      split at h
      · simp only [Option.some.injEq, Prod.mk.injEq] at h
        obtain ⟨rfl, rfl⟩ := h
        simp only [List.flatten_cons, List.append_assoc]
        exact List.Perm.append_left c ih
      · simp only [Option.some.injEq, Prod.mk.injEq] at h
        obtain ⟨rfl, rfl⟩ := h
        simp only [List.flatten_cons]
        refine (List.Perm.append_left c ih).trans ?_
        rw [← List.append_assoc, ← List.append_assoc]
        exact List.Perm.append_right _ List.perm_append_comm
theorem St.callP {w0 w w' : World} {S0 : List Nat} {L pre rest L' : List HL} {ro : HL} (hs : St w0 S0 R L w) (hp : L.flatten.Perm (pre.flatten ++ rest.flatten)) (hc : St w (ids pre.flatten) ro L' w') :
    St w0 S0 R (L' ++ rest) w' := by
  have h1 : St w0 S0 R (pre ++ rest) w := hs.perm (X := []) (by simpa using hp)
  have hc' : St w (ids ([pre.flatten] : List HL).flatten) ro L' w' := by simpa using hc
  have h2 : St w0 S0 R (pre.flatten :: rest) w := h1.perm (X := []) (by simp)
  exact h2.call (.cons .here .nil) hc'
theorem St.low {w0 w : World} {S0 : List Nat} {L A B : List HL} (hs : St w0 S0 R L w) (hp : L.flatten.Perm (A.flatten ++ B.flatten)) : St w (ids A.flatten) (B.flatten ++ R) A w := by
  have hi : (ids L.flatten).Perm (ids A.flatten ++ ids B.flatten) := by simpa [ids] using hp.map (·.1)
  obtain ⟨n1, n2, n3⟩ := List.nodup_append.1 (hi.nodup_iff.1 hs.nd)
  refine ⟨fun p hpm => hs.has p (hp.mem_iff.2 (by simp [hpm])), n1, fun _ _ _ => rfl, fun b hb => .inl hb, Nat.le_refl _, fun p hpm => ?_, ⟨rfl, rfl, rfl⟩⟩
  rcases List.mem_append.1 hpm with h1 | h1
  · exact ⟨hs.has p (hp.mem_iff.2 (by simp [h1])), fun hm => n3 _ hm _ (List.mem_map_of_mem (f := (·.1)) h1) rfl⟩
  · obtain ⟨h2, h3⟩ := hs.ro p h1
    have hlt := (Array.getElem?_eq_some_iff.1 h2).1
    refine ⟨by rw [hs.fr _ hlt h3]; exact h2, fun hm => ?_⟩
    rcases hs.own _ (hi.mem_iff.2 (List.mem_append.2 (.inl hm))) with h | h
    · exact h3 h
    · omega
/-- A region that draws its order and acts: the chunks at 'is' are what it acts on, the others stay as they are. -/
theorem W.drawH {L X : List HL} (N : Nat) (el : List Bool) (is : List Nat) {id : Nat} {l : List Oper} (hm : P.follows .mixedOrders = true) (hB : drawB l.toArray (fun j => el.getD j false) N = true) (hp : part? is 0 L = some (Y, X))
    (h : ∀ cx' : Cx, WD P n (X.flatten ++ R) cx' l.toArray el (l.take N) ρ Y (fun ρ' Y' => W P n R cx (.ops l.toArray (l.drop N) :: k) ρ' (Y' ++ X))) : W P n R cx (.code (.region id l.toArray true) :: k) ρ L := by
  refine ⟨fun a w hf hs => ?_⟩
  have hperm := part?_perm hp
  have hs1 := hs.drawn (w.drawn + 1)
  have hlow := hs1.low hperm
  simp only [mean]
  refine wp_region_any hm ?_
  let cx' : Cx := ⟨{ w with drawn := w.drawn + 1 }, ids Y.flatten, fun _ _ _ => False⟩
  have hN : N ≤ l.length := by
    simp only [drawB, Bool.and_eq_true, decide_eq_true_eq] at hB
    simpa using hB.1.1.1.2
  have hlen : (l.take N).length = N := by simp; omega
  have hS := (h cx').go (fun j => el.getD j false) 0 a (fun j hj => by rw [hlen] at hj; simp [hj]) hf
  rw [hlen] at hS
  have := any_of_swr (P := P) (R := X.flatten ++ R) (cx := cx') (ops := l.toArray) (E := fun j => el.getD j false) (N := N) (Q := mean P n R cx k)
    (Kf := fun a Y' => ∃ ρ', Fits n ρ' a ∧ W P n R cx (.ops l.toArray (l.drop N) :: k) ρ' (Y' ++ X)) hB (by
      rintro a' Y' w' ⟨ρ', hf', hW⟩ hs'
      have := hW.go a' w' hf' (hs1.callP hperm hs')
      simpa [mean] using this) N (List.range' 0 N) (Array.replicate l.toArray.size false) a Y { w with drawn := w.drawn + 1 } (by simp) ⟨by simp, List.pairwise_lt_range', by simp, ?_, ?_, ?_⟩ hlow hS
  · rw [show N + (l.toArray.size - N) = l.toArray.size from by simp; omega] at this
    exact this
  · intro i hi
    have : i < l.toArray.size := by simp; omega
    rw [getD_tf (by simpa using this)]
    simp [hi]
  · intro i _ hi
    rw [getD_tf (by simpa using hi)]
    simp
  · intro i o ho hl
    have hi := (Array.getElem?_eq_some_iff.1 ho).1
    rw [getD_tf (by simpa using hi)] at hl
    simp at hl
end
end Go.Sl
