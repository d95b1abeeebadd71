/-
  The rules for slices: literals, make, append, copy, pieces; for a struct's or an array's literal; min; over any program.
-/
import Derived.Test.YtpimbaphenignaaSq
namespace Go.Sl
open Go
section
variable {P : Program} {n : Nat} {R : HL} {cx : Cx} {k : List Kont} {ρ : Env} {L : List HL}

/-! ### An operation by what it does to some chunks -/
structure Prim (P : Program) (n : Nat) (R : HL) (cx : Cx) (op : Op) (ty : TypeId) (ρ : Env) (L : List HL) (pre : List HL) (post : Value → List HL → Prop) : Prop where
  go : ∀ (oo : Oper) a w, oo.op = op → oo.type = ty → Fits n ρ a → St cx.w0 cx.S0 R L w → ∃ v L' w', (execOp a.eval oo).run P w = .ok (.value v) w' ∧ post v L' ∧ St w (ids pre.flatten) [] L' w'
theorem W.prim {all : Array Oper} {d : Nat} {op : Op} {ty : TypeId} {pos : String} {af : Array Edge} {l : List Oper} {pre rest : List HL} {post : Value → List HL → Prop}
    (h : Prim P n R cx op ty ρ L pre post) (hsel : Sel L pre rest) (hd : d < n) (hk : ∀ v L', post v L' → W P n R cx (.ops all l :: k) ((d, v) :: ρ) (L' ++ rest)) :
    W P n R cx (.ops all (⟨some d, op, ty, pos, af, none⟩ :: l) :: k) ρ L := by
  refine ⟨fun a w hf hs => ?_⟩
  obtain ⟨v, L', w', hr, hp, hst⟩ := h.go ⟨some d, op, ty, pos, af, none⟩ a w rfl rfl hf hs
  simp only [mean, wpList, Region.wanted, if_true]
  refine .inl ?_
  unfold Oper.wp
  rw [hr]
  exact (hk v L' hp).go _ _ (hf.put hd v) (hs.call hsel hst)
/-- The same where nothing is kept of what it yields. -/
theorem W.primU {all : Array Oper} {op : Op} {ty : TypeId} {pos : String} {af : Array Edge} {l : List Oper} {pre rest : List HL} {post : Value → List HL → Prop}
    (h : Prim P n R cx op ty ρ L pre post) (hsel : Sel L pre rest) (hk : ∀ v L', post v L' → W P n R cx (.ops all l :: k) ρ (L' ++ rest)) :
    W P n R cx (.ops all (⟨none, op, ty, pos, af, none⟩ :: l) :: k) ρ L := by
  refine ⟨fun a w hf hs => ?_⟩
  obtain ⟨v, L', w', hr, hp, hst⟩ := h.go ⟨none, op, ty, pos, af, none⟩ a w rfl rfl hf hs
  simp only [mean, wpList, Region.wanted, if_true]
  refine .inl ?_
  unfold Oper.wp
  rw [hr]
  exact (hk v L' hp).go _ _ (by simpa [Act.put] using hf) (hs.call hsel hst)

theorem St.none_ (w : World) (i : Nat) : St w (ids ([] : List HL).flatten) [] [] { w with drawn := i } :=
  ⟨fun _ h => by simp at h, by simp [ids], fun _ _ _ => rfl, fun _ h => by simp [ids] at h, Nat.le_refl _, fun _ h => (by cases h), ⟨rfl, rfl, rfl⟩⟩
theorem St.fresh (w : World) (i : Nat) (S : List Nat) (o : Obj) : St w S [] [[(w.heap.size, o)]] ({ w with drawn := i }.alloc o) := by
  refine ⟨?_, by simp [ids], ?_, ?_, by simp, fun _ h => (by cases h), ⟨rfl, rfl, rfl⟩⟩
  · intro p hp
    simp at hp
    subst hp
    exact heap_alloc_new { w with drawn := i } o
  · intro b hb _
    exact heap_alloc_old { w with drawn := i } o hb
  · intro b hb
    simp [ids] at hb
    subst hb
    exact .inr (Nat.le_refl _)
theorem St.row (w : World) (i b : Nat) (l : List Value) (cs : Array Value) (e : TypeId) (fr : Nat × Nat) (hg : w.heap[b]? = some (.cells cs e fr)) :
    St w [b] [] [[(b, .cells l.toArray e fr)]] ({ w with drawn := i }.setRow b l.toArray) := by
  refine ⟨?_, by simp [ids], ?_, ?_, by simp [World.setRow], fun _ h => (by cases h), ⟨rfl, rfl, rfl⟩⟩
  · intro p hp
    simp at hp
    subst hp
    exact setRow_heap { w with drawn := i } b _ _ e fr hg
  · intro j _ hj
    exact setRow_other { w with drawn := i } b j _ (by simpa using hj)
  · intro j hj
    simp [ids] at hj
    simp [hj]

/-! ### Slices that are owned -/
/-- 'a len cap' holds the cells cs (elements of m cells, of type e), in the chunk H. -/
def Own (m e : Nat) (cs : List Value) (a : Option Addr) (len cap : Nat) (H : HL) : Prop :=
  cs.length = len * m ∧ ((a = none ∧ len = 0 ∧ cap = 0 ∧ H = []) ∨ ∃ b l, a = some ⟨b, 0, none⟩ ∧ H = [(b, .cells (List.toArray l) e (0, 0))] ∧ len ≤ cap ∧ l.length = cap * m ∧ l.take (len * m) = cs)
theorem Own.nil (m e : Nat) : Own m e [] none 0 0 [] := ⟨by simp, .inl ⟨rfl, rfl, rfl, rfl⟩⟩
theorem Own.some {m e : Nat} {cs : List Value} {a : Option Addr} {len cap : Nat} {H : HL} (h : Own m e cs a len cap H) (h0 : 0 < len) :
    ∃ b l, a = some ⟨b, 0, none⟩ ∧ H = [(b, .cells (List.toArray l) e (0, 0))] ∧ len ≤ cap ∧ l.length = cap * m ∧ l.take (len * m) = cs := by
  rcases h.2 with ⟨_, h1, _⟩ | h1
  · omega
  · exact h1
theorem Own.exact {m e : Nat} {cs : List Value} {len : Nat} (b : Nat) (h : cs.length = len * m) : Own m e cs (.some ⟨b, 0, none⟩) len len [(b, .cells cs.toArray e (0, 0))] :=
  ⟨h, .inr ⟨b, cs, rfl, rfl, Nat.le_refl _, h, by rw [← h]; simp⟩⟩

theorem zeroCells_len (z : Array Value) (j : Nat) : (Builtin.zeroCells z j).toList.length = j * z.size := by simp [Builtin.zeroCells]

theorem append_some {e m bytes : Nat} (hi : InfOk P e m bytes) {t ty : TypeId} {s x : Operand} {cs news : List Value} {a : Option Addr} {len cap nx cxx bx ox : Nat} {H : HL}
    {lx : List Value} {ex : TypeId} {frx : Nat × Nat} (ht : P.underlying t = some (.slice e)) (hs : ev? ρ s = some (.slice a len cap)) (ho : Own m e cs a len cap H)
    (hH : ∀ p ∈ H, p ∈ L.flatten) (hx : ev? ρ x = some (.slice (some ⟨bx, ox, none⟩) nx cxx)) (hb : At R L bx (.cells lx.toArray ex frx)) (hn : seg? lx ox (nx * m) = some news)
    (h1 : allOne news = true) (hbig : (len + nx) * bytes ≤ 140737488355328) (hbig2 : len + nx ≤ 140737488355328) :
    Prim P n R cx (.call ⟨.builtin .append, #[s, x], #[t, t]⟩) ty ρ L [H] (fun v L' => ∃ a' cap' H', v = .slice a' (len + nx) cap' ∧ L' = [H'] ∧ Own m e (cs ++ news) a' (len + nx) cap' H') := by
  obtain ⟨i, z, hi1, hi2, rfl, rfl, hi5, hi6⟩ := hi
  obtain ⟨hn1, hn2⟩ := seg?_eq lx ox (nx * i.size) hn
  have hnl : news.length = nx * i.size := by rw [hn2]; simp; omega
  refine ⟨fun oo ac w hoo hty hf hst => ?_⟩
  have hcell : ∀ j v, news[j]? = some v → w.cell? ((⟨bx, ox, none⟩ : Addr).add j) = some v := by
    intro j v hj
    rw [Addr.add_none', cell_of_row w bx (ox + j) _ ex frx (hb.heap hst)]
    have hjm : j < nx * i.size := by rw [← hnl]; exact (List.getElem?_eq_some_iff.1 hj).1
    rw [hn2, List.getElem?_take, if_pos hjm, List.getElem?_drop] at hj
    simpa using hj
  have hrun : ∀ r w', (Builtin.append_ #[t, t] oo.type #[.slice a len cap, .slice (some ⟨bx, ox, none⟩) nx cxx]).run P w = .ok r w' → (execOp ac.eval oo).run P w = .ok (.value r) w' := by
    intro r w' hr
    unfold execOp
    rw [hoo]
    simp [resolve, invoke, builtin, hf.ev hs, hf.ev hx, hr]
  have grownL : ∀ old : Nat, Own i.size e (cs ++ news) (some ⟨w.heap.size, 0, none⟩) (len + nx) (grownCap w (len + nx) old e)
      [(w.heap.size, .cells (cs ++ news ++ (Builtin.zeroCells z.cells (grownCap w (len + nx) old e - (len + nx))).toList).toArray e (0, 0))] := by
    intro old
    have hge := grownCap_ge w (len + nx) old e
    have hlen : (cs ++ news).length = (len + nx) * i.size := by rw [List.length_append, ho.1, hnl, Nat.add_mul]
    refine ⟨hlen, .inr ⟨_, _, rfl, rfl, hge, ?_, ?_⟩⟩
    · rw [List.length_append, hlen, zeroCells_len, hi5, ← Nat.add_mul]
      congr 1
      omega
    · rw [← hlen]; exact List.take_left
  rcases ho.2 with ⟨rfl, rfl, rfl, rfl⟩ | ⟨b, l, rfl, rfl, hlc, hll, htake⟩
  · have hc0 : cs = [] := List.eq_nil_of_length_eq_zero (by simpa using ho.1)
    subst hc0
    by_cases h0 : nx = 0
    · subst h0
      have hn0 : news = [] := List.eq_nil_of_length_eq_zero (by simpa using hnl)
      subst hn0
      refine ⟨.slice none 0 0, [[]], w, hrun _ _ ?_, ⟨none, 0, [], rfl, rfl, Own.nil _ _⟩, ?_⟩
      · simp [Builtin.append_, run_underlying ht, sizeOf, typeInfo, hi1, Builtin.lenOf, Builtin.firstCells, loadCells, loadCellsFrom]
      · exact ⟨fun _ h => by simp at h, by simp [ids], fun _ _ _ => rfl, fun _ h => by simp [ids] at h, Nat.le_refl _, fun _ h => (by cases h), ⟨rfl, rfl, rfl⟩⟩
    · have hr := run_append_nil (P := P) w t oo.type e i z ht hi1 hi2 ⟨bx, ox, none⟩ nx cxx news hnl hcell (by omega) (by omega) (by rw [Nat.zero_add] at hbig; omega)
      refine ⟨.slice (some ⟨w.heap.size, 0, none⟩) (0 + nx) (grownCap w (0 + nx) 0 e), [[(w.heap.size, .cells ([] ++ news ++ (Builtin.zeroCells z.cells (grownCap w (0 + nx) 0 e - (0 + nx))).toList).toArray e (0, 0))]],
        w.drew.alloc (.cells ([] ++ news ++ (Builtin.zeroCells z.cells (grownCap w (0 + nx) 0 e - (0 + nx))).toList).toArray e (0, 0)), hrun _ _ ?_, ⟨_, _, _, rfl, rfl, grownL 0⟩, St.fresh w _ _ _⟩
      rw [hr]
      simp only [Nat.zero_add, List.nil_append, Result.ok.injEq, true_and]
      congr 2
      apply Array.ext'
      simp
  · have hgb : w.heap[b]? = some (.cells l.toArray e (0, 0)) := hst.has (b, .cells l.toArray e (0, 0)) (hH _ (by simp))
    by_cases hroom : len + nx ≤ cap
    · have hfit : len * i.size + news.length ≤ l.toArray.size := by rw [hnl, List.size_toArray, hll, ← Nat.add_mul]; exact Nat.mul_le_mul_right _ hroom
      have hr := run_append_room (P := P) w t oo.type e i ht hi1 b len cap l.toArray hgb ⟨bx, ox, none⟩ nx cxx news hnl hcell (allOne_mem h1) hroom hfit
      refine ⟨.slice (some ⟨b, 0, none⟩) (len + nx) cap, [[(b, .cells (l.take (len * i.size) ++ news ++ l.drop (len * i.size + news.length)).toArray e (0, 0))]], _, hrun _ _ hr, ⟨_, _, _, rfl, rfl, ?_⟩, ?_⟩
      · have hlen : (cs ++ news).length = (len + nx) * i.size := by rw [List.length_append, ho.1, hnl, Nat.add_mul]
        refine ⟨hlen, .inr ⟨b, _, rfl, rfl, hroom, ?_, ?_⟩⟩
        · simp at hfit ⊢
          omega
        · rw [htake, ← hlen]
          exact List.take_left
      · have := St.row w w.drawn b (l.take (len * i.size) ++ news ++ l.drop (len * i.size + news.length)) l.toArray e (0, 0) hgb
        simpa [ids] using this
    · have holds : ∀ j v, cs[j]? = some v → w.cell? ((⟨b, 0, none⟩ : Addr).add j) = some v := by
        intro j v hj
        rw [Addr.add_none', cell_of_row w b (0 + j) _ e (0, 0) hgb]
        rw [← htake, List.getElem?_take] at hj
        split at hj
        · simpa using hj
        · cases hj
      have hr := run_append_grow (P := P) w t oo.type e i z ht hi1 hi2 ⟨b, 0, none⟩ len cap cs ho.1 holds ⟨bx, ox, none⟩ nx cxx news hnl hcell (by omega) (by omega) (growslice_fits (by omega) hbig)
      refine ⟨.slice (some ⟨w.heap.size, 0, none⟩) (len + nx) (grownCap w (len + nx) cap e), [[(w.heap.size, .cells (cs ++ news ++ (Builtin.zeroCells z.cells (grownCap w (len + nx) cap e - (len + nx))).toList).toArray e (0, 0))]],
        w.drew.alloc (.cells (cs ++ news ++ (Builtin.zeroCells z.cells (grownCap w (len + nx) cap e - (len + nx))).toList).toArray e (0, 0)), hrun _ _ ?_, ⟨_, _, _, rfl, rfl, grownL cap⟩, St.fresh w _ _ _⟩
      rw [hr]
      simp only [Result.ok.injEq, true_and]
      congr 2
      apply Array.ext'
      simp
theorem append_nil {e m bytes : Nat} (hi : InfOk P e m bytes) {t ty : TypeId} {s x : Operand} {cs : List Value} {a : Option Addr} {len cap : Nat} {H : HL}
    (ht : P.underlying t = some (.slice e)) (hs : ev? ρ s = some (.slice a len cap)) (ho : Own m e cs a len cap H)
    (hH : ∀ p ∈ H, p ∈ L.flatten) (hx : ev? ρ x = some (.slice none 0 0)) :
    Prim P n R cx (.call ⟨.builtin .append, #[s, x], #[t, t]⟩) ty ρ L [H] (fun v L' => v = .slice a len cap ∧ L' = [H]) := by
  obtain ⟨i, z, hi1, hi2, rfl, rfl, hi5, hi6⟩ := hi
  refine ⟨fun oo ac w hoo hty hf hst => ?_⟩
  refine ⟨_, _, w, ?_, ⟨rfl, rfl⟩, ?_⟩
  · unfold execOp
    rw [hoo]
    have hlc : len ≤ cap := by
      rcases ho.2 with ⟨_, h1, h2, _⟩ | ⟨_, _, _, _, h1, _⟩ <;> omega
    rcases ho.2 with ⟨rfl, rfl, rfl, rfl⟩ | ⟨b, l, rfl, rfl, _, hll, htake⟩
    · simp [resolve, invoke, builtin, hf.ev hs, hf.ev hx, Builtin.append_, run_underlying ht, sizeOf, typeInfo, hi1, Builtin.lenOf, Builtin.firstCells]
    · simp [resolve, invoke, builtin, hf.ev hs, hf.ev hx, Builtin.append_, run_underlying ht, sizeOf, typeInfo, hi1, Builtin.lenOf, Builtin.firstCells, hlc, storeCells]
  · have hmem : ∀ p ∈ [H].flatten, p ∈ L.flatten := by simpa using hH
    refine ⟨fun p hp => hst.has p (hmem p hp), ?_, fun _ _ _ => rfl, fun b hb => .inl hb, Nat.le_refl _, fun _ h => (by cases h), ⟨rfl, rfl, rfl⟩⟩
    rcases ho.2 with ⟨_, _, _, rfl⟩ | ⟨b, l, _, rfl, _⟩ <;> simp [ids]

/-! ### make, literals, pieces, copy, min -/
theorem madeCells_rep (z : Array Value) (j m : Nat) (hz : z.size = m) (v : Value) (h1 : z = #[v]) : (madeCells z j).toList = List.replicate j v := by
  subst h1
  apply List.ext_getElem
  · simp [madeCells]
  · intro i h1 h2
    simp [madeCells, Nat.mod_one]
/-- make of elements of one cell. -/
theorem NewOf.make {e bytes : Nat} {t ty : TypeId} {x y : Operand} {z : Value} {kl kc : IntKind} {len cap : Nat} {il ic : Int}
    (hi : InfOk P e 1 bytes) (hz : ZeroOf P e z) (hz1 : z.oneCell' = true) (ht : P.underlying t = some (.slice e))
    (hx : ev? ρ x = some (.int kl il)) (hy : ev? ρ y = some (.int kc ic)) (hl : il = (len : Int)) (hc : ic = (cap : Int)) (hlc : len ≤ cap) (hb : bytes * cap ≤ 281474976710656) (hb2 : cap ≤ 281474976710656) :
    NewOf P n R cx (.makeSlice t x y) ty ρ L (.cells (List.replicate cap z).toArray e (0, 0)) (fun b => .slice (some ⟨b, 0, none⟩) len cap) := by
  obtain ⟨i, z', hi1, hi2, hi3, rfl, hi5, hi6⟩ := hi
  have hzz : z' = z := by
    have := hz default
    simp [zeroValue, typeInfo, hi1, hi2] at this
    exact this
  subst hzz
  have hzc : z'.cells = #[z'] := by cases z' <;> simp_all [Value.oneCell', Value.cells]
  refine ⟨fun oo a w ho hty hf hs => ⟨w.drawn, ?_⟩⟩
  subst hl hc
  have hr := run_make (P := P) w t e i z' ht hi1 hi2 kl kc len cap (by omega) (by omega) (by have : ((i.bytes * cap : Nat) : Int) ≤ 281474976710656 := by omega
                                                                                             rwa [Int.natCast_mul] at this) (by omega)
  unfold execOp; rw [ho]
  show _ = Result.ok _ (w.alloc _)
  simp only [hf.ev hx, hf.ev hy, Sem.run_bind, hr, Result.andThen_ok, Sem.run_pure, Int.toNat_natCast, hi3, Nat.mul_one]
  have := madeCells_rep z'.cells cap 1 (by rw [hzc]; rfl) z' hzc
  rw [← this]

theorem W.make {all : Array Oper} {d : Nat} {e bytes : Nat} {t ty : TypeId} {x y : Operand} {pos : String} {af : Array Edge} {l : List Oper} {z : Value} {kl kc : IntKind} {len cap : Nat} {il ic : Int}
    (hi : InfOk P e 1 bytes) (hz : ZeroOf P e z) (hz1 : z.oneCell' = true) (ht : P.underlying t = some (.slice e))
    (hx : ev? ρ x = some (.int kl il)) (hy : ev? ρ y = some (.int kc ic)) (hl : il = (len : Int)) (hc : ic = (cap : Int)) (hlc : len ≤ cap) (hb : bytes * cap ≤ 281474976710656) (hb2 : cap ≤ 281474976710656) (hd : d < n)
    (hk : ∀ b, W P n R cx (.ops all l :: k) ((d, .slice (some ⟨b, 0, none⟩) len cap) :: ρ) ([(b, .cells (List.replicate cap z).toArray e (0, 0))] :: L)) :
    W P n R cx (.ops all (⟨some d, .makeSlice t x y, ty, pos, af, none⟩ :: l) :: k) ρ L :=
  W.newOf (NewOf.make hi hz hz1 ht hx hy hl hc hlc hb hb2).go hd hk
/-- A piece of a slice. -/
theorem OpVal.piece {T : Tab} (hT : TabOk P T) {t e ty : TypeId} {x : Operand} {lo hi mx : Option Operand} {b off len cap m l h c : Nat} {ag : Bool}
    (hx : ev? ρ x = some (.slice (some ⟨b, off, none⟩) len cap)) (ht : look? T.sls t = some e) (hz : look? T.tys e = some (ag, m))
    (hl : match lo with | none => l = 0 | some o => ∃ kk, ev? ρ o = some (.int kk (l : Int)))
    (hh : match hi with | none => h = len ∧ mx = none | some o => ∃ kk, ev? ρ o = some (.int kk (h : Int)))
    (hm : match mx with | none => c = cap | some o => ∃ kk, ev? ρ o = some (.int kk (c : Int)))
    (h1 : l ≤ h) (h2 : h ≤ c) (h3 : c ≤ cap) (hne : l < c ∨ l = 0) :
    OpVal P n R cx (.slice t x lo hi mx) ty ρ L (.slice (some ⟨b, off + l * m, none⟩) (h - l) (c - l)) := by
  refine ⟨fun oo a w ho hty hf hs => ?_⟩
  have hu := hT.sls _ (look?_mem ht)
  have hz' := (hT.tys _ (look?_mem hz)).2
  have bnd : ∀ (o : Operand) (v y : Nat) (cd : BoundsCode), (∃ kk, ev? ρ o = some (.int kk (v : Int))) → v ≤ y → (Instr.sliceBound (a.eval o) y cd).run P w = .ok v w := by
    rintro o v y cd ⟨kk, ho⟩ hv
    simp [Instr.sliceBound, hf.ev ho, asIntOf, hv]
  unfold execOp; rw [ho]
  have hne' : ∀ q : Addr, q = ⟨b, off, none⟩ → (if c = l then some q else some (q.add (l * m))) = some ⟨b, off + l * m, none⟩ := by
    rintro q rfl
    rcases hne with h | h
    · rw [if_neg (by omega), Addr.add_none']
    · subst h
      split <;> simp [Addr.add_none']
  have hne2 := hne' _ rfl
  cases mx with
  | none =>
    simp only at hm
    subst hm
    cases hi with
    | none =>
      simp only at hh
      obtain ⟨rfl, -⟩ := hh
      cases lo with
      | none =>
        simp only at hl
        subst hl
        simp [Instr.sliceAt, Instr.slice, Instr.sliceBounds, underlying, hu, hf.ev hx, hz' w, Addr.add_none']
      | some o =>
        simp only at hl
        simp [Instr.sliceAt, Instr.slice, Instr.sliceBounds, underlying, hu, hf.ev hx, hz' w, bnd o l _ _ hl h1, hne2]
    | some o2 =>
      simp only at hh
      cases lo with
      | none =>
        simp only at hl
        subst hl
        simp [Instr.sliceAt, Instr.slice, Instr.sliceBounds, underlying, hu, hf.ev hx, hz' w, bnd o2 h _ _ hh h2, Addr.add_none']
      | some o =>
        simp only at hl
        simp [Instr.sliceAt, Instr.slice, Instr.sliceBounds, underlying, hu, hf.ev hx, hz' w, bnd o2 h _ _ hh h2, bnd o l _ _ hl h1, hne2]
  | some o3 =>
    simp only at hm
    cases hi with
    | none => simp at hh
    | some o2 =>
      simp only at hh
      cases lo with
      | none =>
        simp only at hl
        subst hl
        simp [Instr.sliceAt, Instr.slice, Instr.sliceBounds, underlying, hu, hf.ev hx, hz' w, bnd o3 c _ _ hm h3, bnd o2 h _ _ hh h2, Addr.add_none']
      | some o =>
        simp only at hl
        simp [Instr.sliceAt, Instr.slice, Instr.sliceBounds, underlying, hu, hf.ev hx, hz' w, bnd o3 c _ _ hm h3, bnd o2 h _ _ hh h2, bnd o l _ _ hl h1, hne2]
/-- The front of a slice, whatever it lies over. -/
theorem OpVal.front {T : Tab} (hT : TabOk P T) {t e ty : TypeId} {x y : Operand} {a : Option Addr} {len cap m h : Nat} {ag : Bool} {kk : IntKind} {i : Int}
    (hx : ev? ρ x = some (.slice a len cap)) (ht : look? T.sls t = some e) (hz : look? T.tys e = some (ag, m)) (hy : ev? ρ y = some (.int kk i)) (hi : i = (h : Int)) (h2 : h ≤ cap) :
    OpVal P n R cx (.slice t x none (some y) none) ty ρ L (.slice a h cap) := by
  refine ⟨fun oo ac w ho hty hf hs => ?_⟩
  have hu := hT.sls _ (look?_mem ht)
  have hz' := (hT.tys _ (look?_mem hz)).2
  subst hi
  unfold execOp; rw [ho]
  have h3 : ∀ a : Option Addr, (if cap = 0 then a else a.map (·.add 0)) = a := by
    intro a; split
    · rfl
    · cases a <;> simp [Addr.add]
  cases a <;> simp [Instr.sliceAt, Instr.slice, Instr.sliceBounds, Instr.sliceBound, asIntOf, underlying, hu, hf.ev hx, hf.ev hy, hz' w, h2, Addr.add]
/-- A piece of a nil slice, or of one without cells: nothing of it is kept but its lengths. -/
theorem OpVal.pieceNil {T : Tab} (hT : TabOk P T) {t e ty : TypeId} {x : Operand} {lo hi : Option Operand} {m : Nat} {ag : Bool}
    (hx : ev? ρ x = some (.slice none 0 0)) (ht : look? T.sls t = some e) (hz : look? T.tys e = some (ag, m))
    (hl : match lo with | none => True | some o => ∃ kk, ev? ρ o = some (.int kk 0))
    (hh : match hi with | none => True | some o => ∃ kk, ev? ρ o = some (.int kk 0)) :
    OpVal P n R cx (.slice t x lo hi none) ty ρ L (.slice none 0 0) := by
  refine ⟨fun oo a w ho hty hf hs => ?_⟩
  have hu := hT.sls _ (look?_mem ht)
  have hz' := (hT.tys _ (look?_mem hz)).2
  have bnd : ∀ (o : Operand) (y : Nat) (cd : BoundsCode), (∃ kk, ev? ρ o = some (.int kk 0)) → (Instr.sliceBound (a.eval o) y cd).run P w = .ok 0 w := by
    rintro o y cd ⟨kk, ho⟩
    simp [Instr.sliceBound, hf.ev ho, asIntOf]
  unfold execOp; rw [ho]
  cases hi with
  | none => cases lo with
    | none => simp [Instr.sliceAt, Instr.slice, Instr.sliceBounds, underlying, hu, hf.ev hx, hz' w]
    | some o => simp [Instr.sliceAt, Instr.slice, Instr.sliceBounds, underlying, hu, hf.ev hx, hz' w, bnd o _ _ hl]
  | some o2 => cases lo with
    | none => simp [Instr.sliceAt, Instr.slice, Instr.sliceBounds, underlying, hu, hf.ev hx, hz' w, bnd o2 _ _ hh]
    | some o => simp [Instr.sliceAt, Instr.slice, Instr.sliceBounds, underlying, hu, hf.ev hx, hz' w, bnd o2 _ _ hh, bnd o _ _ hl]

theorem OpVal.min2 {t1 t2 ty : TypeId} {x y : Operand} {kk k2 : IntKind} {i j : Int} (hx : ev? ρ x = some (.int kk i)) (hy : ev? ρ y = some (.int k2 j)) :
    OpVal P n R cx (.call ⟨.builtin .min, #[x, y], #[t1, t2]⟩) ty ρ L (.int kk (if j < i then j else i)) := by
  refine ⟨fun oo a w ho hty hf hs => ?_⟩
  unfold execOp; rw [ho]
  simp [resolve, invoke, builtin, hf.ev hx, hf.ev hy, Builtin.min_, Builtin.min2]
theorem OpVal.max2 {t1 t2 ty : TypeId} {x y : Operand} {kk k2 : IntKind} {i j : Int} (hx : ev? ρ x = some (.int kk i)) (hy : ev? ρ y = some (.int k2 j)) :
    OpVal P n R cx (.call ⟨.builtin .max, #[x, y], #[t1, t2]⟩) ty ρ L (.int kk (if i < j then j else i)) := by
  refine ⟨fun oo a w ho hty hf hs => ?_⟩
  unfold execOp; rw [ho]
  simp [resolve, invoke, builtin, hf.ev hx, hf.ev hy, Builtin.max_, Builtin.max2]

/-! ### Literals of structs, arrays, slices -/
theorem foldl_set (l : List Value) (off : Nat) (l' : List Value) : ∀ (vs : List Value) (j : Nat), splice? l (off + j) vs = some l' →
    ((vs.zipIdx j).foldl (fun cs (x : Value × Nat) => cs.setIfInBounds (off + x.2) x.1) l.toArray) = l'.toArray
  | [], j, h => by
    obtain ⟨_, h2⟩ := splice?_eq l (off + j) [] h
    simp at h2
    simp [h2]
  | v :: vs, j, h => by
    obtain ⟨h1, h2⟩ := splice?_eq l (off + j) (v :: vs) h
    simp only [List.zipIdx_cons, List.foldl_cons]
    have h3 : splice? (l.set (off + j) v) (off + (j + 1)) vs = some l' := by
      have h4 : off + (j + 1) + vs.length ≤ (l.set (off + j) v).length := by simp at h1 ⊢; omega
      have : ∀ (l : List Value) (o : Nat) (vs : List Value), o + vs.length ≤ l.length → splice? l o vs = some (l.take o ++ vs ++ l.drop (o + vs.length)) := by
        intro l
        induction l with
        | nil => intro o vs h; simp at h; obtain ⟨rfl, rfl⟩ := h; rfl
        | cons x l ih =>
          intro o vs h
          cases o with
          | zero =>
            cases vs with
            | nil => simp [splice?]
            | cons u us =>
              have := ih 0 us (by simpa using h)
              simp only [splice?, this]
              simp
          | succ o =>
            have := ih o vs (by simp at h; omega)
            simp only [splice?, this]
            simp [show o + 1 + vs.length = (o + vs.length) + 1 from by omega]
      rw [this _ _ _ h4, h2]
      congr 1
      simp only [List.length_cons]
      have e1 : (l.set (off + j) v).take (off + (j + 1)) = l.take (off + j) ++ [v] := by
        rw [show off + (j + 1) = (off + j) + 1 from by omega, List.take_add_one]
        have hlt : off + j < l.length := by simp at h1; omega
        rw [List.take_set, List.set_eq_of_length_le (by simp; omega)]
        simp [hlt]
      have e2 : (l.set (off + j) v).drop (off + (j + 1) + vs.length) = l.drop (off + j + (vs.length + 1)) := by
        rw [List.drop_set_of_lt (by omega)]
        congr 1
        omega
      rw [e1, e2]
      simp
    have := foldl_set (l.set (off + j) v) off l' vs (j + 1) h3
    simpa using this
/-- Parts (place, cells) laid into the zero cells. -/
def lay? : List Value → List (Nat × List Value) → Option (List Value)
  | l, [] => some l
  | l, (o, vs) :: r => match splice? l o vs with
    | some l' => lay? l' r
    | none => none
def parts? (ρ : Env) : List (Nat × Nat) → List (Nat × Operand) → Option (List (Nat × List Value))
  | _, [] => some []
  | pl, (i, x) :: r => match ev? ρ x with
    | none => none
    | some v => match cells? v with
      | none => none
      | some vs => match pl[i]? with
        | none => none
        | some (o, _) => match parts? ρ pl r with
          | none => none
          | some q => some ((o, vs) :: q)
def Fills (pl : List (Nat × Nat)) (ρ : Env) (ps : List (Nat × Operand)) : Prop := match ps with
  | [] => True
  | (i, x) :: r => (∃ v vs o, ev? ρ x = some v ∧ cells? v = some vs ∧ pl[i]? = some (o, vs.length)) ∧ Fills pl ρ r
theorem fill_lay {place : Nat → Option (Nat × Nat)} {pl : List (Nat × Nat)} (hp : ∀ i o m, pl[i]? = some (o, m) → place i = some (o, m)) {a : Act} (hf : Fits n ρ a) :
    ∀ (ps : List (Nat × Operand)) (zs out : List Value) {q : List (Nat × List Value)}, parts? ρ pl ps = some q → Fills pl ρ ps → lay? zs q = some out →
      Instr.fill place zs.toArray (ps.map fun (i, x) => (i, a.eval x)) = some out.toArray
  | [], zs, out, q, h1, _, h3 => by
    simp only [parts?, Option.some.injEq] at h1
    subst h1
    simp only [lay?, Option.some.injEq] at h3
    subst h3
    rfl
  | (i, x) :: r, zs, out, q, h1, h2, h3 => by
    obtain ⟨⟨v, vs, o, e1, e2, e3⟩, h2'⟩ := h2
    simp only [parts?, e1, e2, e3] at h1
    split at h1
    · cases h1
    · rename_i q' hq
      cases h1
      simp only [lay?] at h3
      split at h3
      · rename_i zs' hz
        have ih := fill_lay hp hf r zs' out hq h2' h3
        have hc := cells?_eq e2
        obtain ⟨hb, -⟩ := splice?_eq _ _ _ hz
        have hfs := foldl_set zs o zs' vs 0 (by simpa using hz)
        simp only [List.map_cons, Instr.fill, hp i o _ e3, hf.ev e1, hc]
        rw [if_neg (by simp; omega)]
        have : (Array.foldl (fun cs (x : Value × Nat) => cs.setIfInBounds (o + x.2) x.1) zs.toArray vs.toArray.zipIdx) = zs'.toArray := by
          rw [← hfs]
          simp
        rw [← ih]
        simp only at this ⊢
        rw [← this]
      · cases h3

theorem OpVal.build {T : Tab} (hT : TabOk P T) {t ty : TypeId} {ps : List (Nat × Operand)} {z : Value} {zs out : List Value} {pl : List (Nat × Nat)} {q : List (Nat × List Value)}
    (hz : look? T.zeros t = some z) (hzc : cells? z = some zs) (hp : look? T.flds t = some pl) (hq : parts? ρ pl ps = some q) (hf : Fills pl ρ ps) (ho : lay? zs q = some out) :
    OpVal P n R cx (.build t ps.toArray) ty ρ L (.agg out.toArray) := by
  refine ⟨fun oo a w hoo hty hfi hs => ?_⟩
  have hz' := hT.zeros _ (look?_mem hz) w
  have hp' := hT.flds _ (look?_mem hp)
  unfold execOp; rw [hoo]
  have hcz := cells?_eq hzc
  rcases hp' with ⟨fs, hu, hm⟩ | ⟨len, el, m, hu, hm, hpl⟩
  · have hfill := fill_lay (place := (pl.toArray[·]?)) (fun i o m h => by simpa using h) hfi ps zs out hq hf ho
    have hm' := hm w
    simp only at hz' hu hm'
    simp only [Instr.build, Sem.run_bind, hz', underlying, run_program, Result.andThen_ok, hu, Sem.run_pure, hm', hcz]
    simp only [List.map_toArray, hfill]
    simp
  · have hfill := fill_lay (place := fun i => some (i * m, m)) (fun i o k h => by
      simp only at hpl
      rw [hpl] at h
      simp only [List.getElem?_map, Option.map_eq_some_iff, Prod.mk.injEq] at h
      obtain ⟨j, hj, rfl, rfl⟩ := h
      have := (List.getElem?_eq_some_iff.1 hj).2
      simp at this
      rw [this]) hfi ps zs out hq hf ho
    have hm' := hm w
    simp only at hz' hu
    simp only [Instr.build, Sem.run_bind, hz', underlying, run_program, Result.andThen_ok, hu, Sem.run_pure, hm', hcz]
    simp only [List.map_toArray, hfill]
    simp

def repL : Nat → List Value → List Value
  | 0, _ => []
  | j + 1, l => l ++ repL j l
theorem repL_eq (zc : List Value) (m : Nat) (hm : zc.length = m) (h0 : 0 < m) : ∀ len : Nat, ((List.range (len * m)).map fun i => zc.toArray[i % m]!) = repL len zc
  | 0 => by simp [repL]
  | j + 1 => by
    have ih := repL_eq zc m hm h0 j
    rw [show (j + 1) * m = m + j * m from by rw [Nat.add_mul]; omega, List.range_add, List.map_append, repL]
    congr 1
    · apply List.ext_getElem
      · simp [hm]
      · intro i h1 h2
        simp at h1
        simp [Nat.mod_eq_of_lt h1, h2]
    · rw [← ih, List.map_map]
      apply List.map_congr_left
      intro i _
      simp
theorem NewOf.newSl {T : Tab} (hT : TabOk P T) {t e ty m bytes len : Nat} {ps : List (Nat × Operand)} {z : Value} {zs zz out : List Value}
    {pl : List (Nat × Nat)} {q : List (Nat × List Value)}
    (ht : look? T.sls t = some e) (hi : look? T.infs e = some (m, bytes)) (hz : look? T.zeros e = some z) (hzc : cells? z = some zs) (hzl : zs.length = m) (hrep : norm? (repL len zs) = some zz)
    (hpl : ∀ i o k, pl[i]? = some (o, k) → o = i * m ∧ k = m) (hq : parts? ρ pl ps = some q) (hf : Fills pl ρ ps) (ho : lay? zz q = some out) (hlen : len * m ≤ 16777216) :
    NewOf P n R cx (.buildSlice t len ps.toArray) ty ρ L (.cells out.toArray e (0, 0)) (fun b => .slice (some ⟨b, 0, none⟩) len len) := by
  refine ⟨fun oo a w hoo hty hfi hs => ⟨w.drawn, ?_⟩⟩
  have hu := hT.sls _ (look?_mem ht)
  obtain ⟨i, z', hi1, hi2, hi3, hi4, hi5, hi6⟩ := hT.infs _ (look?_mem hi)
  have hz' := hT.zeros _ (look?_mem hz) w
  have hcz := cells?_eq hzc
  have hrep' := norm?_eq hrep
  simp only at hu hi1 hi3 hi4 hi5 hi6 hz'
  have hfill := fill_lay (place := fun i => some (i * m, m)) (fun i o k h => by obtain ⟨rfl, rfl⟩ := hpl i o k h; rfl) hfi ps zz out hq hf ho
  unfold execOp; rw [hoo]
  show _ = Result.ok _ (w.alloc _)
  have hsz : (sizeOf e).run P w = .ok m w := by simp [sizeOf, typeInfo, hi1, hi3]
  have hcells : ((Array.range (len * m)).map fun i => zs.toArray[i % zs.toArray.size]!) = zz.toArray := by
    apply Array.ext'
    have := repL_eq zs m hzl hi6 len
    simp only [List.size_toArray, hzl, Array.toList_map, Array.toList_range]
    rw [this, hrep']
  have hno : ¬ (2 ^ 24 < len * m) := by omega
  simp only [Instr.buildSlice, Sem.run_bind, underlying, run_program, Result.andThen_ok, hu, Sem.run_pure, hsz, gt_iff_lt, hno, if_false, List.map_toArray]
  by_cases h0 : len * m = 0
  · have hzz : zz = [] := by
      rw [← hrep']
      have : len = 0 := by
        rcases Nat.mul_eq_zero.1 h0 with h | h
        · exact h
        · omega
      subst this
      rfl
    subst hzz
    rw [if_pos h0]
    have h00 : ∀ zero : Array Value, ((Array.range 0).map fun (i : Nat) => zero[i % zero.size]!) = ([] : List Value).toArray := by intro zero; simp
    simp only [Sem.run_bind, Sem.run_pure, Result.andThen_ok, h0, h00, hfill]
    simp [newRow]
  · rw [if_neg h0]
    simp only [Sem.run_bind, hz', Result.andThen_ok, Sem.run_pure, hcz, hcells, hfill]
    simp [newRow]

theorem W.newSl {T : Tab} (hT : TabOk P T) {all : Array Oper} {d : Nat} {t e ty m bytes len : Nat} {pos : String} {af : Array Edge} {l : List Oper} {ps : List (Nat × Operand)} {z : Value} {zs zz out : List Value}
    {pl : List (Nat × Nat)} {q : List (Nat × List Value)}
    (ht : look? T.sls t = some e) (hi : look? T.infs e = some (m, bytes)) (hz : look? T.zeros e = some z) (hzc : cells? z = some zs) (hzl : zs.length = m) (hrep : norm? (repL len zs) = some zz)
    (hpl : ∀ i o k, pl[i]? = some (o, k) → o = i * m ∧ k = m) (hq : parts? ρ pl ps = some q) (hf : Fills pl ρ ps) (ho : lay? zz q = some out) (hlen : len * m ≤ 16777216) (hd : d < n)
    (hk : ∀ b, W P n R cx (.ops all l :: k) ((d, .slice (some ⟨b, 0, none⟩) len len) :: ρ) ([(b, .cells out.toArray e (0, 0))] :: L)) :
    W P n R cx (.ops all (⟨some d, .buildSlice t len ps.toArray, ty, pos, af, none⟩ :: l) :: k) ρ L :=
  W.newOf (NewOf.newSl hT ht hi hz hzc hzl hrep hpl hq hf ho hlen).go hd hk
/-! ### Slices that are only read -/
theorem take?_of (l : List Value) (m : Nat) (h : m ≤ l.length) : take? l m = some (l.take m) := by
  induction l generalizing m with
  | nil => simp at h; subst h; rfl
  | cons x l ih =>
    cases m with
    | zero => rfl
    | succ m => simp only [take?, ih m (by simpa using h)]; rfl
theorem seg?_of (l : List Value) (o m : Nat) (h : o + m ≤ l.length) : seg? l o m = some ((l.drop o).take m) := by
  induction l generalizing o with
  | nil =>
    simp at h
    obtain ⟨rfl, rfl⟩ := h
    rfl
  | cons x l ih =>
    cases o with
    | zero => simpa [seg?] using take?_of (x :: l) m (by simpa using h)
    | succ o => simpa [seg?] using ih o (by simp at h; omega)
theorem splice?_of (l : List Value) (o : Nat) (vs : List Value) (h : o + vs.length ≤ l.length) : splice? l o vs = some (l.take o ++ vs ++ l.drop (o + vs.length)) := by
  induction l generalizing o vs with
  | nil => simp at h; obtain ⟨rfl, rfl⟩ := h; rfl
  | cons x l ih =>
    cases o with
    | zero =>
      cases vs with
      | nil => simp [splice?]
      | cons u us =>
        have := ih 0 us (by simpa using h)
        simp only [splice?, this]
        simp
    | succ o =>
      have := ih o vs (by simp at h; omega)
      simp only [splice?, this]
      simp [show o + 1 + vs.length = (o + vs.length) + 1 from by omega]
/-- The slice 'a len ..' reads as the cells cs (len elements of m cells), in the blocks ro. -/
def RoSl (m : Nat) (cs : List Value) (a : Option Addr) (len : Nat) (ro : HL) : Prop :=
  cs.length = len * m ∧ ((len = 0 ∧ ro = []) ∨ ∃ b off l e fr, a = some ⟨b, off, none⟩ ∧ ro = [(b, .cells (List.toArray l) e fr)] ∧ off + len * m ≤ l.length ∧ (l.drop off).take (len * m) = cs)
theorem flatMap_seg {α : Type} (f : α → List Value) (m : Nat) (hf : ∀ x, (f x).length = m) : ∀ (xs : List α) (i : Nat) (hi : i < xs.length), ((xs.flatMap f).drop (i * m)).take m = f xs[i]
  | [], i, hi => by simp at hi
  | x :: xs, 0, _ => by
    simp only [List.flatMap_cons, Nat.zero_mul, List.drop_zero, List.getElem_cons_zero]
    rw [← hf x]
    exact List.take_left
  | x :: xs, i + 1, hi => by
    have ih := flatMap_seg f m hf xs i (by simpa using hi)
    simp only [List.flatMap_cons, List.getElem_cons_succ]
    rw [show (i + 1) * m = (f x).length + i * m from by rw [hf x, Nat.add_mul]; omega, ← List.drop_drop, List.drop_left]
    exact ih
theorem flatMap_len {α : Type} (f : α → List Value) (m : Nat) (hf : ∀ x, (f x).length = m) (xs : List α) : (xs.flatMap f).length = xs.length * m := by
  induction xs with
  | nil => simp
  | cons x xs ih => simp [List.flatMap_cons, hf, ih, Nat.add_mul]; omega
theorem RoSl.elem {α : Type} {f : α → List Value} {m : Nat} (hf : ∀ x, (f x).length = m) {xs : List α} {l : List Value} {off : Nat} (hl : off + xs.length * m ≤ l.length) (h : (l.drop off).take (xs.length * m) = xs.flatMap f)
    {i : Nat} (hi : i < xs.length) : seg? l (off + i * m) m = some (f xs[i]) := by
  have h1 : i * m + m ≤ xs.length * m := by
    rw [← Nat.succ_mul]; exact Nat.mul_le_mul_right m hi
  rw [seg?_of _ _ _ (by omega)]
  congr 1
  have h2 := flatMap_seg f m hf xs i hi
  rw [← h, ← List.drop_drop] at *
  rw [← h2, List.drop_take, List.take_take]
  congr 1
  omega

def apl (m : Nat) : Nat → Nat → List (Nat × Nat)
  | _, 0 => []
  | i, c + 1 => (i * m, m) :: apl m (i + 1) c
theorem apl_ok (m : Nat) : ∀ (c i0 i o k : Nat), (apl m i0 c)[i]? = some (o, k) → o = (i0 + i) * m ∧ k = m
  | 0, _, _, _, _, h => by simp [apl] at h
  | c + 1, i0, 0, o, k, h => by simp [apl] at h; obtain ⟨rfl, rfl⟩ := h; simp
  | c + 1, i0, i + 1, o, k, h => by
    have := apl_ok m c (i0 + 1) i o k (by simpa [apl] using h)
    rw [show i0 + (i + 1) = i0 + 1 + i from by omega]
    exact this
theorem NewOf.slit {T : Tab} (hT : TabOk P T) {t e ty m bytes len : Nat} {ps : List (Nat × Operand)} {z : Value} {zs zz out : List Value}
    {q : List (Nat × List Value)}
    (ht : look? T.sls t = some e) (hi : look? T.infs e = some (m, bytes)) (hz : look? T.zeros e = some z) (hzc : cells? z = some zs) (hzl : zs.length = m) (hrep : norm? (repL len zs) = some zz)
    (hq : parts? ρ (apl m 0 len) ps = some q) (hf : Fills (apl m 0 len) ρ ps) (ho : lay? zz q = some out) (hlen : len * m ≤ 16777216) :
    NewOf P n R cx (.buildSlice t len ps.toArray) ty ρ L (.cells out.toArray e (0, 0)) (fun b => .slice (some ⟨b, 0, none⟩) len len) :=
  NewOf.newSl hT ht hi hz hzc hzl hrep (fun i o k h => by have := apl_ok m len 0 i o k h; simpa using this) hq hf ho hlen
theorem W.slit {T : Tab} (hT : TabOk P T) {all : Array Oper} {d : Nat} {t e ty m bytes len : Nat} {pos : String} {af : Array Edge} {l : List Oper} {ps : List (Nat × Operand)} {z : Value} {zs zz out : List Value}
    {q : List (Nat × List Value)}
    (ht : look? T.sls t = some e) (hi : look? T.infs e = some (m, bytes)) (hz : look? T.zeros e = some z) (hzc : cells? z = some zs) (hzl : zs.length = m) (hrep : norm? (repL len zs) = some zz)
    (hq : parts? ρ (apl m 0 len) ps = some q) (hf : Fills (apl m 0 len) ρ ps) (ho : lay? zz q = some out) (hlen : len * m ≤ 16777216) (hd : d < n)
    (hk : ∀ b, W P n R cx (.ops all l :: k) ((d, .slice (some ⟨b, 0, none⟩) len len) :: ρ) ([(b, .cells out.toArray e (0, 0))] :: L)) :
    W P n R cx (.ops all (⟨some d, .buildSlice t len ps.toArray, ty, pos, af, none⟩ :: l) :: k) ρ L :=
  W.newSl hT ht hi hz hzc hzl hrep (fun i o k h => by have := apl_ok m len 0 i o k h; simpa using this) hq hf ho hlen hd hk
end
end Go.Sl
