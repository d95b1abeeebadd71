/-
  The rules for a range over a map, for bits and shifts, over any program.
-/
import Derived.Test.YtpimbaphenignaaMp
import Derived.Maps.RangeRun
import Derived.IntWalk
namespace Go.Sl
open Go Go.IntWalk
set_option linter.unusedVariables false
section
variable {P : Program} {n : Nat} {R : HL} {cx : Cx} {k : List Kont} {ρ : Env} {L : List HL} {α : Type}
/-- A map's block that holds m, each entry of an age of its own. -/
def IsMq (kk : IntKind) (f : α → Value) (m : List (Int × α)) (b : Nat) (H : HL) : Prop :=
  ∃ es clock, H = [(b, .map es clock)] ∧ MapIs kk f es.toList m ∧ (∀ x ∈ es.toList, x.born < clock) ∧ (es.toList.map (·.born)).Nodup
/-- The same, and an iterator over it: what is still to come, and what has come last. -/
def IsRg (kk : IntKind) (f : α → Value) (m todo : List (Int × α)) (cur : Option (Int × α)) (b r : Nat) (H : HL) : Prop :=
  ∃ es clock since seen c0, H = [(b, .map es clock), (r, .mapIter (some b) since seen c0)] ∧ MapIs kk f es.toList m ∧ (es.toList.map (·.born)).Nodup ∧ (∀ x ∈ es.toList, x.born < since) ∧ (∀ x ∈ es.toList, x.born < clock) ∧ since ≤ c0 ∧ since ≤ clock ∧
    MapIs kk f (leftOf es seen).toList todo ∧ ∀ q, cur = some q → ∃ (s : Array Nat) (e : MapEntry), seen = s.push e.born ∧ c0 = clock ∧ e ∈ es.toList ∧ e.key = .int kk q.1 ∧ e.val = f q.2
theorem MapIs.at_ {kk : IntKind} {f : α → Value} {es : List MapEntry} {m : List (Int × α)} (h : MapIs kk f es m) {j : Nat} {e : MapEntry} (he : es[j]? = some e) : ∃ hj : j < m.length, e.key = .int kk m[j].1 ∧ e.val = f m[j].2 := by
  unfold MapIs at h
  have h1 := congrArg (·[j]?) h
  simp only [List.getElem?_map, he, Option.map_some] at h1
  cases hm : m[j]? with
  | none => rw [hm] at h1; cases h1
  | some q =>
    rw [hm] at h1
    obtain ⟨hj, rfl⟩ := List.getElem?_eq_some_iff.1 hm
    simp only [Option.map_some, Option.some.injEq, Prod.mk.injEq] at h1
    exact ⟨hj, h1.1, h1.2⟩
theorem filter_erase {es : List MapEntry} (hn : (es.map (·.born)).Nodup) : ∀ {j : Nat} {e : MapEntry}, es[j]? = some e → es.filter (fun x => !(x.born == e.born)) = es.eraseIdx j := by
  induction es with
  | nil => intro j e h; simp at h
  | cons a l ih =>
    intro j e h
    simp only [List.map_cons, List.nodup_cons] at hn
    cases j with
    | zero =>
      simp only [List.getElem?_cons_zero, Option.some.injEq] at h
      subst h
      rw [List.filter_cons, if_neg (by simp), List.eraseIdx_cons_zero, List.filter_eq_self]
      intro x hx
      have : x.born ≠ a.born := fun h => hn.1 (by rw [← h]; exact List.mem_map_of_mem (f := (·.born)) hx)
      simpa using this
    | succ j =>
      have h' : l[j]? = some e := by simpa using h
      have hm : e ∈ l := List.mem_of_getElem? h'
      have hne : a.born ≠ e.born := fun h => hn.1 (by rw [h]; exact List.mem_map_of_mem (f := (·.born)) hm)
      rw [List.filter_cons, if_pos (by simpa using hne), List.eraseIdx_cons_succ, ih hn.2 h']
theorem leftOf_push {es : Array MapEntry} {seen : Array Nat} (hn : (es.toList.map (·.born)).Nodup) {j : Nat} {e : MapEntry} (h : (leftOf es seen).toList[j]? = some e) : (leftOf es (seen.push e.born)).toList = (leftOf es seen).toList.eraseIdx j := by
  have hs : ((leftOf es seen).toList.map (·.born)).Nodup := by
    unfold leftOf
    rw [Array.toList_filter]
    exact hn.sublist (List.Sublist.map _ List.filter_sublist)
  rw [← filter_erase hs h]
  unfold leftOf
  rw [Array.toList_filter, Array.toList_filter, List.filter_filter]
  congr 1
  funext x
  simp only [Array.contains_push, Bool.not_or, Bool.and_comm]
theorem NewOf.range {t kt et ty : TypeId} {x : Operand} {b clock : Nat} {es : Array MapEntry} (ht : P.underlying t = some (.map kt et)) (hx : ev? ρ x = some (.map (some b))) (hb : At R L b (.map es clock)) :
    NewOf P n R cx (.range t x) ty ρ L (.mapIter (some b) clock #[] clock) (fun r => .pointer (some ⟨r, 0, none⟩)) := by
  refine ⟨fun oo a w ho hty hf hs => ⟨w.drawn, ?_⟩⟩
  unfold execOp; rw [ho]
  have hg := MapKept.run_getObj_map (P := P) (hb.heap hs)
  simp [Instr.range, hf.ev hx, run_underlying ht, hg, Result.andThen, newObj, Sem.run]
theorem IsMq.rg {kk : IntKind} {f : α → Value} {m : List (Int × α)} {b r clock : Nat} {es : Array MapEntry} (hm : MapIs kk f es.toList m) (hc : ∀ x ∈ es.toList, x.born < clock) (hn : (es.toList.map (·.born)).Nodup) :
    IsRg kk f m m none b r [(b, .map es clock), (r, .mapIter (some b) clock #[] clock)] := by
  refine ⟨es, clock, clock, #[], clock, rfl, hm, hn, hc, hc, Nat.le_refl _, Nat.le_refl _, ?_, fun q h => by cases h⟩
  have : leftOf es #[] = es := by unfold leftOf; simp
  rw [this]
  exact hm
theorem IsRg.mq {kk : IntKind} {f : α → Value} {m todo : List (Int × α)} {cur : Option (Int × α)} {b r : Nat} {H : HL} (h : IsRg kk f m todo cur b r H) : ∃ H1 H2, H = H1 ++ H2 ∧ IsMq kk f m b H1 := by
  obtain ⟨es, clock, since, seen, c0, rfl, hm, hn, hb, hb2, hsc, -, ht, -⟩ := h
  exact ⟨[_], [_], rfl, es, clock, rfl, hm, hb2, hn⟩
theorem St.setO2 (w : World) (i b r : Nat) (o o1 o2 : Obj) (hb : w.heap[b]? = some o) (hr : w.heap[r]? = some o1) (hne : b ≠ r) : St w [b, r] [] [[(b, o), (r, o2)]] { w with heap := w.heap.setIfInBounds r o2, drawn := i } := by
  refine ⟨?_, by simp [ids, hne], ?_, ?_, by simp, fun _ h => (by cases h), ⟨rfl, rfl, rfl⟩⟩
  · intro p hp
    simp at hp
    rcases hp with rfl | rfl
    · show (w.heap.setIfInBounds r o2)[b]? = some o
      rw [(MapKept.heap_set hr).2 b hne]; exact hb
    · exact (MapKept.heap_set hr).1
  · intro j _ hj
    exact (MapKept.heap_set hr).2 j (by simp at hj; exact hj.2)
  · intro j hj
    simp [ids] at hj
    simp [hj]
/-- What comes next: nothing, or any one that is still to come. -/
theorem mapNext {kk : IntKind} {f : α → Value} {m todo : List (Int × α)} {cur : Option (Int × α)} {b r ty : Nat} {x : Operand} {H : HL} (hx : ev? ρ x = some (.pointer (some ⟨r, 0, none⟩))) (hH : ∀ p ∈ H, p ∈ L.flatten) (h : IsRg kk f m todo cur b r H) :
    Prim P n R cx (.next x false) ty ρ L [H] (fun v L' => ∃ H', L' = [H'] ∧ ((todo = [] ∧ v = .tuple #[.bool false] ∧ IsRg kk f m todo cur b r H') ∨
      ∃ (j : Nat) (hj : j < todo.length), v = .tuple #[.bool true, .int kk todo[j].1, f todo[j].2] ∧ IsRg kk f m (todo.eraseIdx j) (some todo[j]) b r H')) := by
  obtain ⟨es, clock, since, seen, c0, rfl, hm, hn, hb, hb2, hsc, hsk, ht, hcur⟩ := h
  refine ⟨fun oo a w ho hty hf hs => ?_⟩
  have h1 := hs.has (b, .map es clock) (hH _ (by simp))
  have h2 := hs.has (r, .mapIter (some b) since seen c0) (hH _ (by simp))
  have hne : b ≠ r := by rintro rfl; rw [h1] at h2; cases h2
  rcases run_next_at (P := P) w oo.type r b since c0 seen es clock h2 h1 hb hsc with ⟨g1, g2⟩ | ⟨e, g1, w1, g2, g3⟩
  · refine ⟨_, [[(b, .map es clock), (r, .mapIter (some b) since seen c0)]], { w with heap := w.heap.setIfInBounds r (.mapIter (some b) since seen c0) }, ?_, ⟨_, rfl, .inl ⟨?_, rfl, es, clock, since, seen, c0, rfl, hm, hn, hb, hb2, hsc, hsk, ht, hcur⟩⟩, ?_⟩
    · unfold execOp; rw [ho]
      have e0 : w.heap.setIfInBounds r (.mapIter (some b) since seen c0) = w.heap := by
        apply Array.ext_getElem?
        intro i
        by_cases hi : i = r
        · subst hi; rw [(MapKept.heap_set h2).1, h2]
        · exact (MapKept.heap_set h2).2 i hi
      rw [e0]
      simp [hf.ev hx, g2, Result.andThen]
    · unfold MapIs at ht
      have hz : (leftOf es seen).toList = [] := by rw [← List.length_eq_zero_iff]; simpa using g1
      rw [hz] at ht
      simpa using ht.symm
    · simpa [ids] using St.setO2 w w.drawn b r _ _ (.mapIter (some b) since seen c0) h1 h2 hne
  · obtain ⟨j, hj⟩ := List.getElem?_of_mem g1
    obtain ⟨hjt, k1, k2⟩ := ht.at_ hj
    have hem : e ∈ es.toList := by
      have := List.mem_of_getElem? hj
      unfold leftOf at this
      rw [Array.toList_filter] at this
      exact (List.mem_filter.1 this).1
    refine ⟨_, [[(b, .map es clock), (r, .mapIter (some b) since (seen.push e.born) clock)]], ChangeMaps.setBlock w1 r (.mapIter (some b) since (seen.push e.born) clock), ?_, ⟨_, rfl, .inr ⟨j, hjt, rfl, es, clock, since, seen.push e.born, clock, rfl, hm, hn, hb, hb2, hsk, hsk, ?_, ?_⟩⟩, ?_⟩
    · unfold execOp; rw [ho]
      simp [hf.ev hx, g3, k1, k2, Result.andThen]
    · rw [leftOf_push hn hj]
      unfold MapIs at ht ⊢
      rw [map_eraseIdx, ht, map_eraseIdx]
    · intro q hq
      cases hq
      exact ⟨seen, e, rfl, rfl, hem, k1, k2⟩
    · rcases g2 with rfl | rfl
      · exact St.setO2 w1 w1.drawn b r _ _ (.mapIter (some b) since (seen.push e.born) clock) h1 h2 hne
      · exact St.setO2 w (w.drew).drawn b r _ _ (.mapIter (some b) since (seen.push e.born) clock) h1 h2 hne
theorem OpVal.entry {kk : IntKind} {f : α → Value} {m todo : List (Int × α)} {q : Int × α} {b r ty : Nat} {x : Operand} {H : HL} (hx : ev? ρ x = some (.pointer (some ⟨r, 0, none⟩))) (hH : ∀ p ∈ H, At R L p.1 p.2) (h : IsRg kk f m todo (some q) b r H) :
    OpVal P n R cx (.entry x) ty ρ L (.tuple #[.int kk q.1, f q.2]) := by
  obtain ⟨es, clock, since, seen, c0, rfl, hm, hn, hb, hb2, hsc, hsk, ht, hcur⟩ := h
  obtain ⟨s, e, rfl, rfl, h1, h2, h3⟩ := hcur q rfl
  refine ⟨fun oo a w ho hty hf hs => ?_⟩
  have g1 := (hH (b, .map es c0) (by simp)).heap hs
  have g2 := (hH (r, .mapIter (some b) since (s.push e.born) c0) (by simp)).heap hs
  have g3 := run_entry_at (P := P) w r b since s es c0 e g2 g1 h1 hn
  unfold execOp; rw [ho]
  simp [hf.ev hx, g3, h2, h3, Result.andThen]
theorem mqPut {t kt et ty : TypeId} {x y u : Operand} {b : Nat} {m : List (Int × α)} {kk : IntKind} {key : Int} {v : α} {f : α → Value} {H : HL}
    (ht : P.underlying t = some (.map kt et)) (hk : P.underlying kt = some (.int kk)) (hx : ev? ρ x = some (.map (some b))) (hy : ev? ρ y = some (.int kk key)) (hu : ev? ρ u = some (f v))
    (hH : ∀ p ∈ H, p ∈ L.flatten) (hm : IsMq kk f m b H) : Skips P n R cx (.mapUpdate t x y u) ty ρ L [H] (fun L' => ∃ H', L' = [H'] ∧ IsMq kk f (mput m key v) b H') := by
  obtain ⟨es, clock, rfl, hm, hbc, hbn⟩ := hm
  refine ⟨fun oo a w ho hty hf hs => ?_⟩
  have hb := hs.has (b, .map es clock) (hH _ (by simp))
  have hg := MapKept.run_getObj_map (P := P) hb
  have hik : MapKept.IsKey (.int kk) (.int kk key) := by simp [MapKept.IsKey]
  have hck := fun e => MapKept.run_checkKey (P := P) (w := w) (k := .int kk key) hk hik e 9999
  rcases find_spec (k' := kk) key es.toList m 0 hm with ⟨g1, g2, g3, _⟩ | ⟨j, v0, e, g1, g2, g3, g4, g5, g6, _⟩
  · refine ⟨_, { w with heap := w.heap.setIfInBounds b (.map (es.push { key := .int kk key, val := f v, born := clock }) (clock + 1)) }, ?_, ⟨_, rfl, es.push { key := .int kk key, val := f v, born := clock }, clock + 1, rfl, ?_, ?_, ?_⟩, ?_⟩
    · unfold execOp; rw [ho]
      simp [Instr.mapUpdate, hf.ev hx, hf.ev hy, hf.ev hu, run_underlying ht, hg, hck, MapKept.run_findKey hk g2, MapKept.run_setObj_map _ hb, Result.andThen]
    · unfold MapIs at hm ⊢
      rw [g3]
      simp [hm]
    · intro x hx
      simp only [Array.toList_push, List.mem_append, List.mem_singleton] at hx
      rcases hx with hx | rfl
      · have := hbc x hx; omega
      · show clock < clock + 1; omega
    · simp only [Array.toList_push, List.map_append, List.map_cons, List.map_nil]
      rw [List.nodup_append]
      refine ⟨hbn, by simp, ?_⟩
      intro x hx y hy
      obtain ⟨e, he, rfl⟩ := List.mem_map.1 hx
      have := hbc e he
      simp at hy
      omega
    · simpa [ids] using St.setO w w.drawn b _ (.map (es.push { key := .int kk key, val := f v, born := clock }) (clock + 1)) hb
  · have hes : es[0 + j]? = some e := by simpa using g3
    have hmap : (es.modify (0 + j) fun e => { e with key := .int kk key, val := f v }).toList.map (·.born) = es.toList.map (·.born) := by
      rw [Array.toList_modify]
      apply List.ext_getElem?
      intro q
      simp only [List.getElem?_map, List.getElem?_modify]
      cases es.toList[q]? with
      | none => rfl
      | some e => simp only [Option.map_eq_map, Option.map_some]; split <;> rfl
    refine ⟨_, { w with heap := w.heap.setIfInBounds b (.map (es.modify (0 + j) fun e => { e with key := .int kk key, val := f v }) clock) }, ?_, ⟨_, rfl, es.modify (0 + j) fun e => { e with key := .int kk key, val := f v }, clock, rfl, ?_, ?_, ?_⟩, ?_⟩
    · unfold execOp; rw [ho]
      simp [Instr.mapUpdate, hf.ev hx, hf.ev hy, hf.ev hu, run_underlying ht, hg, hck, MapKept.run_findKey hk g2, Result.andThen]
      have hes' : es[j]? = some e := by simpa using g3
      simp [hes', g4, MapKept.run_keyThatStays hik, MapKept.run_setObj_map _ hb]
    · unfold MapIs at hm ⊢
      rw [g6, List.map_set, ← hm, Nat.zero_add]
      apply List.ext_getElem?
      intro q
      simp only [Array.toList_modify, List.getElem?_map, List.getElem?_modify, List.getElem?_set]
      have hjl : j < es.toList.length := (List.getElem?_eq_some_iff.1 g3).1
      by_cases hq : j = q
      · subst hq
        simp only [List.length_map, hjl, if_true]
        rw [g3]
        rfl
      · simp [hq]
    · intro x hx
      have h1 : x.born ∈ (es.modify (0 + j) fun e => { e with key := .int kk key, val := f v }).toList.map (·.born) := List.mem_map_of_mem (f := (·.born)) hx
      rw [hmap] at h1
      obtain ⟨e', he', h2⟩ := List.mem_map.1 h1
      have := hbc e' he'
      omega
    · rw [hmap]; exact hbn
    · simpa [ids] using St.setO w w.drawn b _ (.map (es.modify (0 + j) fun e => { e with key := .int kk key, val := f v }) clock) hb
theorem mqDel {t kt et ty : TypeId} {x y : Operand} {b : Nat} {m : List (Int × α)} {kk : IntKind} {key : Int} {f : α → Value} {H : HL}
    (ht : P.underlying t = some (.map kt et)) (hk : P.underlying kt = some (.int kk)) (hx : ev? ρ x = some (.map (some b))) (hy : ev? ρ y = some (.int kk key))
    (hH : ∀ p ∈ H, p ∈ L.flatten) (hm : IsMq kk f m b H) : Prim P n R cx (.call ⟨.builtin .delete, #[x, y], #[t, kt]⟩) ty ρ L [H] (fun _ L' => ∃ H', L' = [H'] ∧ IsMq kk f (mdel m key) b H') := by
  obtain ⟨es, clock, rfl, hm, hbc, hbn⟩ := hm
  refine ⟨fun oo a w ho hty hf hs => ?_⟩
  have hb := hs.has (b, .map es clock) (hH _ (by simp))
  have hg := MapKept.run_getObj_map (P := P) hb
  have hik : MapKept.IsKey (.int kk) (.int kk key) := by simp [MapKept.IsKey]
  have hck := fun e => MapKept.run_checkKey (P := P) (w := w) (k := .int kk key) hk hik e 9999
  rcases find_spec (k' := kk) key es.toList m 0 hm with ⟨g1, g2, _, g3⟩ | ⟨j, v0, e, g1, g2, g3, g4, g5, _, g6⟩
  · refine ⟨.tuple #[], _, { w with heap := w.heap.setIfInBounds b (.map es clock) }, ?_, ⟨_, rfl, es, clock, rfl, by rw [g3]; exact hm, hbc, hbn⟩, ?_⟩
    · unfold execOp; rw [ho]
      simp [resolve, invoke, builtin, Builtin.delete_, hf.ev hx, hf.ev hy, run_underlying ht, hg, hck, MapKept.run_findKey hk g2, MapKept.run_setObj_map _ hb, Result.andThen]
    · simpa [ids] using St.setO w w.drawn b _ (.map es clock) hb
  · refine ⟨.tuple #[], _, { w with heap := w.heap.setIfInBounds b (.map (es.eraseIdxIfInBounds (0 + j)) clock) }, ?_, ⟨_, rfl, es.eraseIdxIfInBounds (0 + j), clock, rfl, ?_, ?_, ?_⟩, ?_⟩
    · unfold execOp; rw [ho]
      simp [resolve, invoke, builtin, Builtin.delete_, hf.ev hx, hf.ev hy, run_underlying ht, hg, hck, MapKept.run_findKey hk g2, MapKept.run_setObj_map _ hb, Result.andThen]
    · unfold MapIs at hm ⊢
      rw [g6, map_eraseIdx, ← hm, Nat.zero_add, Array.toList_eraseIdxIfInBounds, map_eraseIdx]
    · intro x hx
      rw [Array.toList_eraseIdxIfInBounds] at hx
      exact hbc x (List.mem_of_mem_eraseIdx hx)
    · rw [Array.toList_eraseIdxIfInBounds, map_eraseIdx]
      exact hbn.sublist (List.eraseIdx_sublist _ _)
    · simpa [ids] using St.setO w w.drawn b _ (.map (es.eraseIdxIfInBounds (0 + j)) clock) hb
/-! ### Bits -/
theorem run_bits {op : BinOp} {kk : IntKind} {a b r : Nat} (ha : a < 2 ^ kk.bits) (hb : b < 2 ^ kk.bits) (hr : (r : Int) = kk.wrap r)
    (ho : (op = .xor ∧ r = a ^^^ b) ∨ (op = .and ∧ r = a &&& b) ∨ (op = .or ∧ r = a ||| b)) (w : World) : (Op.intBits op kk a b).run P w = .ok (.int kk r) w := by
  have e1 : ∀ x : Nat, x < 2 ^ kk.bits → (BitVec.ofInt kk.bits (x : Int)).toNat = x := fun x hx => by
    rw [BitVec.ofInt_natCast, BitVec.toNat_ofNat, Nat.mod_eq_of_lt hx]
  rcases ho with ⟨rfl, rfl⟩ | ⟨rfl, rfl⟩ | ⟨rfl, rfl⟩
  all_goals
    simp only [Op.intBits, BitVec.toNat_xor, BitVec.toNat_and, BitVec.toNat_or, e1 a ha, e1 b hb]
    rw [← hr]
    rfl
theorem OpVal.bitsN {op : BinOp} {t t' ty : TypeId} {x y : Operand} {kk : IntKind} {i j : Int} {a b r : Nat} (hx : ev? ρ x = some (.int kk i)) (hy : ev? ρ y = some (.int kk j)) (hi : i = a) (hj : j = b)
    (ha : a < 2 ^ kk.bits) (hb : b < 2 ^ kk.bits) (hr : (r : Int) = kk.wrap r) (ho : (op = .xor ∧ r = a ^^^ b) ∨ (op = .and ∧ r = a &&& b) ∨ (op = .or ∧ r = a ||| b)) : OpVal P n R cx (.binOp op t x y t') ty ρ L (.int kk r) := by
  refine ⟨fun oo ac w hoo hty hf hs => ?_⟩
  subst hi hj
  have h := run_bits (P := P) ha hb hr ho w
  unfold execOp; rw [hoo]
  rcases ho with ⟨rfl, rfl⟩ | ⟨rfl, rfl⟩ | ⟨rfl, rfl⟩ <;> simp [hf.ev hx, hf.ev hy, eqGuard, binOp, h, Result.andThen]
theorem OpVal.xor32 {t t' ty : TypeId} {x y : Operand} {i j : Int} {a b : Nat} (hx : ev? ρ x = some (.int .u32 i)) (hy : ev? ρ y = some (.int .u32 j)) (ha : a < 2 ^ 32) (hb : b < 2 ^ 32) (hi : i = a := by rfl) (hj : j = b := by rfl) :
    OpVal P n R cx (.binOp .xor t x y t') ty ρ L (.int .u32 ((a ^^^ b : Nat) : Int)) := by
  have h := Nat.xor_lt_two_pow ha hb
  refine OpVal.bitsN hx hy hi hj ha hb ?_ (.inl ⟨rfl, rfl⟩)
  exact (u32_in _ (by omega)).symm
theorem OpVal.shrN {t t' ty : TypeId} {x y : Operand} {kk k2 : IntKind} {i j : Int} {a c : Nat} (hx : ev? ρ x = some (.int kk i)) (hy : ev? ρ y = some (.int k2 j)) (hi : i = a := by rfl) (hj : j = c := by rfl) (hc : c ≤ kk.bits := by decide) :
    OpVal P n R cx (.binOp .shr t x y t') ty ρ L (.int kk ((a / 2 ^ c : Nat) : Int)) := by
  refine ⟨fun oo ac w hoo hty hf hs => ?_⟩
  subst hi hj
  have hm : min c kk.bits = c := Nat.min_eq_left hc
  have hn : ¬ ((c : Int) < 0) := by omega
  have hd : (a : Int).fdiv (2 ^ c) = ((a / 2 ^ c : Nat) : Int) := by
    have e : (2 : Int) ^ c = ((2 ^ c : Nat) : Int) := by simp
    rw [e, Int.fdiv_eq_ediv_of_nonneg _ (Int.natCast_nonneg _)]
    rfl
  unfold execOp; rw [hoo]
  simp only [hf.ev hx, hf.ev hy, eqGuard, binOp, Op.shift, if_neg hn, Int.toNat_natCast, hm, hd]
  rfl
theorem OpVal.not32 {t ty : TypeId} {x : Operand} {i : Int} {a : Nat} (hx : ev? ρ x = some (.int .u32 i)) (ha : a < 2 ^ 32) (hi : i = a := by rfl) :
    OpVal P n R cx (.unOp .xor t x) ty ρ L (.int .u32 ((4294967295 ^^^ a : Nat) : Int)) := by
  refine ⟨fun oo ac w hoo hty hf hs => ?_⟩
  subst hi
  have h := run_bits (P := P) (op := .xor) (kk := .u32) (a := 4294967295) (b := a) (r := 4294967295 ^^^ a) (by decide) ha (u32_in _ (by have := Nat.xor_lt_two_pow (x := 4294967295) (n := 32) (by decide) ha; omega)).symm (.inl ⟨rfl, rfl⟩) w
  unfold execOp; rw [hoo]
  have hmx : IntKind.u32.max = ((4294967295 : Nat) : Int) := by decide
  simp [hf.ev hx, Op.unary, IntKind.signed, hmx]
  rw [show (4294967295 : Int) = ((4294967295 : Nat) : Int) from rfl, h]
  rfl
end
end Go.Sl
