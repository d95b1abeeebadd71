/-
  The rules for copy, clear, pieces of arrays, strings of bytes, and for callbacks that are values; over any program.
-/
import Derived.Test.YtpimbaphenignaaMp
import Derived.Laws.BytesString
import Derived.IntWalk
namespace Go.Sl
set_option linter.unusedVariables false
open Go
section
variable {P : Program} {n : Nat} {R : HL} {cx : Cx} {k : List Kont} {ρ : Env} {L : List HL}

theorem ndT {p : Prop} [Decidable p] (h : p) : (!decide p) = false := by simp [h]
theorem ndF {p : Prop} [Decidable p] (h : ¬p) : (!decide p) = true := by simp [h]
/-! ### What stands next -/
section
variable {all : Array Oper} {l : List Oper} {d : Nat} {g : Nat × Bool} {od : Option Nat} {op : Op} {t t' ty : TypeId} {x y c : Operand} {pos : String} {af : Array Edge} {bo : BinOp} {ca cb : Code}
theorem W.isLoad (h : W P n R cx (.ops all (⟨some d, .load t x, ty, pos, af, none⟩ :: l) :: k) ρ L) : W P n R cx (.ops all (⟨some d, .load t x, ty, pos, af, none⟩ :: l) :: k) ρ L := h
theorem W.isStore (h : W P n R cx (.ops all (⟨none, .store t x y, ty, pos, af, none⟩ :: l) :: k) ρ L) : W P n R cx (.ops all (⟨none, .store t x y, ty, pos, af, none⟩ :: l) :: k) ρ L := h
theorem W.isNew (h : W P n R cx (.ops all (⟨some d, .alloc t, ty, pos, af, none⟩ :: l) :: k) ρ L) : W P n R cx (.ops all (⟨some d, .alloc t, ty, pos, af, none⟩ :: l) :: k) ρ L := h
theorem W.isBox (h : W P n R cx (.ops all (⟨some d, .box t x, ty, pos, af, none⟩ :: l) :: k) ρ L) : W P n R cx (.ops all (⟨some d, .box t x, ty, pos, af, none⟩ :: l) :: k) ρ L := h
theorem W.isPick (h : W P n R cx (.ops all (⟨some d, .pick c x y, ty, pos, af, none⟩ :: l) :: k) ρ L) : W P n R cx (.ops all (⟨some d, .pick c x y, ty, pos, af, none⟩ :: l) :: k) ρ L := h
theorem W.isBin (h : W P n R cx (.ops all (⟨some d, .binOp bo t x y t', ty, pos, af, none⟩ :: l) :: k) ρ L) : W P n R cx (.ops all (⟨some d, .binOp bo t x y t', ty, pos, af, none⟩ :: l) :: k) ρ L := h
theorem W.isGuard (h : W P n R cx (.ops all (⟨od, op, ty, pos, af, some g⟩ :: l) :: k) ρ L) : W P n R cx (.ops all (⟨od, op, ty, pos, af, some g⟩ :: l) :: k) ρ L := h
theorem W.isCond (h : W P n R cx (.code (.cond c ca cb) :: k) ρ L) : W P n R cx (.code (.cond c ca cb) :: k) ρ L := h
variable {el : List Kd} {fl : List (Nat × Obj)} {Y : List HL} {K : Env → List HL → Prop} {ops : Array Oper}
theorem WD.isLoad (h : WD P n R cx ops el fl (⟨some d, .load t x, ty, pos, af, none⟩ :: l) ρ Y K) : WD P n R cx ops el fl (⟨some d, .load t x, ty, pos, af, none⟩ :: l) ρ Y K := h
theorem WD.isStore (h : WD P n R cx ops el fl (⟨none, .store t x y, ty, pos, af, none⟩ :: l) ρ Y K) : WD P n R cx ops el fl (⟨none, .store t x y, ty, pos, af, none⟩ :: l) ρ Y K := h
theorem WD.isNew (h : WD P n R cx ops el fl (⟨some d, .alloc t, ty, pos, af, none⟩ :: l) ρ Y K) : WD P n R cx ops el fl (⟨some d, .alloc t, ty, pos, af, none⟩ :: l) ρ Y K := h
theorem WD.isBox (h : WD P n R cx ops el fl (⟨some d, .box t x, ty, pos, af, none⟩ :: l) ρ Y K) : WD P n R cx ops el fl (⟨some d, .box t x, ty, pos, af, none⟩ :: l) ρ Y K := h
theorem WD.isPick (h : WD P n R cx ops el fl (⟨some d, .pick c x y, ty, pos, af, none⟩ :: l) ρ Y K) : WD P n R cx ops el fl (⟨some d, .pick c x y, ty, pos, af, none⟩ :: l) ρ Y K := h
theorem WD.isBin (h : WD P n R cx ops el fl (⟨some d, .binOp bo t x y t', ty, pos, af, none⟩ :: l) ρ Y K) : WD P n R cx ops el fl (⟨some d, .binOp bo t x y t', ty, pos, af, none⟩ :: l) ρ Y K := h
theorem WD.isGuard (h : WD P n R cx ops el fl (⟨od, op, ty, pos, af, some g⟩ :: l) ρ Y K) : WD P n R cx ops el fl (⟨od, op, ty, pos, af, some g⟩ :: l) ρ Y K := h
end
/-! ### Pieces -/
theorem OpVal.arSl {T : Tab} (hT : TabOk P T) {t e ty : TypeId} {x : Operand} {b off len m : Nat} {ag : Bool}
    (hx : ev? ρ x = some (.pointer (some ⟨b, off, none⟩))) (ht : look? T.ars t = some (len, e)) (hz : look? T.tys e = some (ag, m)) :
    OpVal P n R cx (.slice t x none none none) ty ρ L (.slice (some ⟨b, off, none⟩) len len) := by
  refine ⟨fun oo a w ho hty hf hs => ?_⟩
  have hu := hT.ars _ (look?_mem ht)
  have hz' := (hT.tys _ (look?_mem hz)).2
  unfold execOp; rw [ho]
  have h3 : (if len = 0 then (⟨b, off, none⟩ : Addr) else (⟨b, off, none⟩ : Addr).add 0) = ⟨b, off, none⟩ := by split <;> simp [Addr.add]
  simp [Instr.sliceAt, Instr.slice, Instr.sliceBounds, Instr.sureAddr, underlying, hu, hf.ev hx, hz' w, h3]

/-- A piece of a slice, wherever it begins. -/
theorem OpVal.pieceG {T : Tab} (hT : TabOk P T) {t e ty : TypeId} {x : Operand} {lo hi mx : Option Operand} {b off len cap m l h c : Nat} {ag : Bool}
    (hx : ev? ρ x = some (.slice (some ⟨b, off, none⟩) len cap)) (ht : look? T.sls t = some e) (hz : look? T.tys e = some (ag, m))
    (hl : match lo with | none => l = 0 | some o => ∃ kk, ev? ρ o = some (.int kk (l : Int)))
    (hh : match hi with | none => h = len ∧ mx = none | some o => ∃ kk, ev? ρ o = some (.int kk (h : Int)))
    (hm : match mx with | none => c = cap | some o => ∃ kk, ev? ρ o = some (.int kk (c : Int)))
    (h1 : l ≤ h) (h2 : h ≤ c) (h3 : c ≤ cap) :
    OpVal P n R cx (.slice t x lo hi mx) ty ρ L (.slice (some ⟨b, if c = l then off else off + l * m, none⟩) (h - l) (c - l)) := by
  refine ⟨fun oo a w ho hty hf hs => ?_⟩
  have hu := hT.sls _ (look?_mem ht)
  have hz' := (hT.tys _ (look?_mem hz)).2
  have bnd : ∀ (o : Operand) (v y : Nat) (cd : BoundsCode), (∃ kk, ev? ρ o = some (.int kk (v : Int))) → v ≤ y → (Instr.sliceBound (a.eval o) y cd).run P w = .ok v w := by
    rintro o v y cd ⟨kk, ho⟩ hv
    simp [Instr.sliceBound, hf.ev ho, asIntOf, hv]
  unfold execOp; rw [ho]
  have hne2 : (if c = l then some (⟨b, off, none⟩ : Addr) else some ((⟨b, off, none⟩ : Addr).add (l * m))) = some ⟨b, if c = l then off else off + l * m, none⟩ := by split <;> simp [Addr.add_none']
  cases mx with
  | none =>
    simp only at hm
    subst hm
    cases hi with
    | none =>
      simp only at hh
      obtain ⟨rfl, -⟩ := hh
      cases lo with
      | none =>
        simp only at hl
        subst hl
        simp [Instr.sliceAt, Instr.slice, Instr.sliceBounds, underlying, hu, hf.ev hx, hz' w, Addr.add_none']
      | some o =>
        simp only at hl
        simp [Instr.sliceAt, Instr.slice, Instr.sliceBounds, underlying, hu, hf.ev hx, hz' w, bnd o l _ _ hl h1, hne2]
    | some o2 =>
      simp only at hh
      cases lo with
      | none =>
        simp only at hl
        subst hl
        simp [Instr.sliceAt, Instr.slice, Instr.sliceBounds, underlying, hu, hf.ev hx, hz' w, bnd o2 h _ _ hh h2, Addr.add_none']
      | some o =>
        simp only at hl
        simp [Instr.sliceAt, Instr.slice, Instr.sliceBounds, underlying, hu, hf.ev hx, hz' w, bnd o2 h _ _ hh h2, bnd o l _ _ hl h1, hne2]
  | some o3 =>
    simp only at hm
    cases hi with
    | none => simp at hh
    | some o2 =>
      simp only at hh
      cases lo with
      | none =>
        simp only at hl
        subst hl
        simp [Instr.sliceAt, Instr.slice, Instr.sliceBounds, underlying, hu, hf.ev hx, hz' w, bnd o3 c _ _ hm h3, bnd o2 h _ _ hh h2, Addr.add_none']
      | some o =>
        simp only at hl
        simp [Instr.sliceAt, Instr.slice, Instr.sliceBounds, underlying, hu, hf.ev hx, hz' w, bnd o3 c _ _ hm h3, bnd o2 h _ _ hh h2, bnd o l _ _ hl h1, hne2]

theorem OpVal.ixI {T : Tab} (hT : TabOk P T) {t e ty : TypeId} {x y : Operand} {b off len cap m j : Nat} {kk : IntKind} {i : Int} {ag : Bool}
    (hx : ev? ρ x = some (.slice (some ⟨b, off, none⟩) len cap)) (hy : ev? ρ y = some (.int kk i)) (ht : look? T.sls t = some e) (hz : look? T.tys e = some (ag, m))
    (hi : i = (j : Int)) (hj : j < len) : OpVal P n R cx (.indexAddr t x y) ty ρ L (.pointer (some ⟨b, off + j * m, none⟩)) :=
  OpVal.indexSl hx hy (hT.sls _ (look?_mem ht)) (hT.tys _ (look?_mem hz)).2 hi hj

/-! ### copy -/
theorem run_load_ro {w : World} {w0 : World} {S0 : List Nat} (hs : St w0 S0 R L w) {m : Nat} {cs : List Value} {a : Option Addr} {sl cap : Nat} {ro : HL} (h : RoSl m cs a sl ro) (hro : ∀ p ∈ ro, At R L p.1 p.2) {q : Nat} (hq : q ≤ sl) :
    (Builtin.firstCells m q (.slice a sl cap)).run P w = .ok (cs.take (q * m)).toArray w := by
  rcases h.2 with ⟨h0, _⟩ | ⟨b, off, l, e, fr, rfl, rfl, hl, hc⟩
  · subst h0
    have : q = 0 := by omega
    subst this
    cases a <;> simp [Builtin.firstCells, loadCells, loadCellsFrom]
  · have hqm : q * m ≤ sl * m := Nat.mul_le_mul_right _ hq
    have hg := (hro (b, .cells l.toArray e fr) (by simp)).heap hs
    have := run_loadCells_seg (P := P) (m := q * m) (vs := cs.take (q * m)) hg (by rw [seg?_of l off (q * m) (by omega), ← hc, List.take_take, Nat.min_eq_left hqm])
    simpa [Builtin.firstCells] using this
theorem allOne_take {l : List Value} (h : allOne l = true) (q : Nat) : allOne (l.take q) = true := allOne_of fun v hv => allOne_mem h v (List.mem_of_mem_take hv)
theorem copyTo {T : Tab} (hT : TabOk P T) {t t2 e ty : TypeId} {x y : Operand} {b off dLen dCap sLen sCap m q : Nat} {ag : Bool} {cs l : List Value} {a : Option Addr} {ro : HL} {ex : TypeId}
    (ht : look? T.sls t = some e) (hz : look? T.tys e = some (ag, m)) (hx : ev? ρ x = some (.slice (some ⟨b, off, none⟩) dLen dCap)) (hy : ev? ρ y = some (.slice a sLen sCap))
    (hs : RoSl m cs a sLen ro) (hro : ∀ p ∈ ro, At R L p.1 p.2) (hb : (b, .cells l.toArray ex (0, 0)) ∈ L.flatten) (h1 : allOne cs = true) (hq : min sLen dLen = q) (hfit : off + q * m ≤ l.length) :
    Prim P n R cx (.call ⟨.builtin .copy, #[x, y], #[t, t2]⟩) ty ρ L [[(b, .cells l.toArray ex (0, 0))]]
      (fun v L' => v = .int .i64 (q : Int) ∧ L' = [[(b, .cells (l.take off ++ cs.take (q * m) ++ l.drop (off + q * m)).toArray ex (0, 0))]]) := by
  refine ⟨fun oo ac w ho hty hf hst => ?_⟩
  have hu := hT.sls _ (look?_mem ht)
  have hz' := (hT.tys _ (look?_mem hz)).2
  have hg : w.heap[b]? = some (.cells l.toArray ex (0, 0)) := hst.has _ hb
  have hload := run_load_ro (P := P) (cap := sCap) hst hs hro (q := q) (by omega)
  have hcl : (cs.take (q * m)).length = q * m := by
    rw [List.length_take, hs.1]
    exact Nat.min_eq_left (Nat.mul_le_mul_right _ (by omega))
  have hsp := splice?_of l off (cs.take (q * m)) (by rw [hcl]; exact hfit)
  rw [hcl] at hsp
  have hstore := run_storeCells_splice (P := P) hg hsp (allOne_take h1 _)
  refine ⟨_, _, _, ?_, ⟨rfl, rfl⟩, by simpa [ids] using St.row w w.drawn b _ l.toArray ex (0, 0) hg⟩
  unfold execOp; rw [ho]
  have hm' : sLen.min dLen = q := hq
  simp [resolve, invoke, builtin, hf.ev hx, hf.ev hy, Builtin.copy_, run_underlying hu, Builtin.lenOf, hz' w, hm', hload, hstore, goInt]
/-- clear of a slice. -/
theorem repL_zero {m : Nat} (zc : List Value) (hm : zc.length = m) (h0 : 0 < m) (len : Nat) : (Builtin.zeroCells zc.toArray len).toList = repL len zc := by
  rw [← repL_eq zc m hm h0 len]
  simp [Builtin.zeroCells, hm, Array.toList_map, Array.toList_range]
theorem clearSl {T : Tab} (hT : TabOk P T) {t e ty : TypeId} {x : Operand} {b off len cap m : Nat} {l zs : List Value} {z : Value} {ex : TypeId}
    (ht : look? T.sls t = some e) (hzz : look? T.zeros e = some z) (hc : cells? z = some zs) (hm : zs.length = m) (h0 : 0 < m) (hx : ev? ρ x = some (.slice (some ⟨b, off, none⟩) len cap))
    (hb : (b, .cells l.toArray ex (0, 0)) ∈ L.flatten) (h1 : allOne (repL len zs) = true) (hl : 0 < len) (hfit : off + len * m ≤ l.length) :
    Prim P n R cx (.call ⟨.builtin .clear, #[x], #[t]⟩) ty ρ L [[(b, .cells l.toArray ex (0, 0))]]
      (fun v L' => L' = [[(b, .cells (l.take off ++ repL len zs ++ l.drop (off + len * m)).toArray ex (0, 0))]]) := by
  refine ⟨fun oo ac w ho hty hf hst => ?_⟩
  have hu := hT.sls _ (look?_mem ht)
  have hz' := hT.zeros _ (look?_mem hzz)
  have hg : w.heap[b]? = some (.cells l.toArray ex (0, 0)) := hst.has _ hb
  have hrl : (repL len zs).length = len * m := by rw [repL_len, hm]
  have hsp := splice?_of l off (repL len zs) (by rw [hrl]; exact hfit)
  rw [hrl] at hsp
  have hstore := run_storeCells_splice (P := P) hg hsp h1
  have hzc : (Builtin.zeroCells z.cells len).toList = repL len zs := by rw [cells?_eq hc]; exact repL_zero zs hm h0 len
  refine ⟨.tuple #[], _, _, ?_, rfl, by simpa [ids] using St.row w w.drawn b _ l.toArray ex (0, 0) hg⟩
  unfold execOp; rw [ho]
  obtain ⟨len, rfl⟩ : ∃ j, len = j + 1 := ⟨len - 1, by omega⟩
  simp [resolve, invoke, builtin, hf.ev hx, Builtin.clear_, run_underlying hu, hz' w, hzc, hstore]

/-! ### Maps, plainly -/
section
variable {α : Type}
theorem mget_mput (m : List (Int × α)) (x y : Int) (v : α) : mget (mput m x v) y = if x = y then some v else mget m y := by
  induction m with
  | nil => simp [mput, mget]
  | cons p r ih =>
    obtain ⟨a, u⟩ := p
    simp only [mput]
    split
    · rename_i h; subst h; simp only [mget]; split <;> rfl
    · rename_i h
      simp only [mget, ih]
      split
      · rename_i h2; subst h2; rw [if_neg (fun h3 => h h3.symm)]
      · rfl
theorem mget_none {m : List (Int × α)} {x : Int} (h : x ∉ m.map (·.1)) : mget m x = none := by
  induction m with
  | nil => rfl
  | cons p r ih =>
    obtain ⟨a, u⟩ := p
    simp only [List.map_cons, List.mem_cons, not_or] at h
    simp only [mget]
    rw [if_neg (fun h2 => h.1 h2.symm)]
    exact ih h.2
theorem mget_mdel {m : List (Int × α)} (hn : (m.map (·.1)).Nodup) (x y : Int) : mget (mdel m x) y = if x = y then none else mget m y := by
  induction m with
  | nil => simp [mdel, mget]
  | cons p r ih =>
    obtain ⟨a, u⟩ := p
    simp only [List.map_cons, List.nodup_cons] at hn
    simp only [mdel]
    split
    · rename_i h; subst h
      split
      · rename_i h2; subst h2; exact mget_none hn.1
      · rename_i h2; simp only [mget]; rw [if_neg h2]
    · rename_i h
      simp only [mget, ih hn.2]
      split
      · rename_i h2; subst h2; rw [if_neg (fun h3 => h h3.symm)]
      · rfl
theorem mput_keys (m : List (Int × α)) (x : Int) (v : α) : ∀ k ∈ (mput m x v).map (·.1), k = x ∨ k ∈ m.map (·.1) := by
  induction m with
  | nil => intro k hk; simp [mput] at hk; exact .inl hk
  | cons p r ih =>
    obtain ⟨a, u⟩ := p
    intro k hk
    simp only [mput] at hk
    split at hk
    · simp only [List.map_cons, List.mem_cons] at hk ⊢
      rcases hk with h | h
      · exact .inl h
      · exact .inr (.inr h)
    · simp only [List.map_cons, List.mem_cons] at hk ⊢
      rcases hk with h | h
      · exact .inr (.inl h)
      · rcases ih k h with h | h
        · exact .inl h
        · exact .inr (.inr h)
theorem mput_nd {m : List (Int × α)} (hn : (m.map (·.1)).Nodup) (x : Int) (v : α) : ((mput m x v).map (·.1)).Nodup := by
  induction m with
  | nil => simp [mput]
  | cons p r ih =>
    obtain ⟨a, u⟩ := p
    simp only [List.map_cons, List.nodup_cons] at hn
    simp only [mput]
    split
    · rename_i h; subst h; simpa using hn
    · rename_i h
      simp only [List.map_cons, List.nodup_cons]
      refine ⟨fun hk => ?_, ih hn.2⟩
      rcases mput_keys r x v a hk with h2 | h2
      · exact h h2
      · exact hn.1 h2
theorem mdel_sub (m : List (Int × α)) (x : Int) : ∀ k ∈ (mdel m x).map (·.1), k ∈ m.map (·.1) := by
  induction m with
  | nil => simp [mdel]
  | cons p r ih =>
    obtain ⟨a, u⟩ := p
    intro k hk
    simp only [mdel] at hk
    split at hk
    · simp only [List.map_cons, List.mem_cons]; exact .inr hk
    · simp only [List.map_cons, List.mem_cons] at hk ⊢
      rcases hk with h | h
      · exact .inl h
      · exact .inr (ih k h)
theorem mdel_nd {m : List (Int × α)} (hn : (m.map (·.1)).Nodup) (x : Int) : ((mdel m x).map (·.1)).Nodup := by
  induction m with
  | nil => simp [mdel]
  | cons p r ih =>
    obtain ⟨a, u⟩ := p
    simp only [List.map_cons, List.nodup_cons] at hn
    simp only [mdel]
    split
    · exact hn.2
    · simp only [List.map_cons, List.nodup_cons]
      exact ⟨fun hk => hn.1 (mdel_sub r x a hk), ih hn.2⟩
end

/-! ### Lists of numbers -/
def ints (xs : List Int) : List Value := xs.flatMap fun x => [.int .i64 x]
theorem ints_len (xs : List Int) : (ints xs).length = xs.length := by
  unfold ints
  exact flatMap_len (fun x => [Value.int .i64 x]) 1 (fun _ => rfl) xs |>.trans (by omega)
theorem int_at {l : List Value} {off : Nat} {xs : List Int} (hl : off + xs.length * 1 ≤ l.length) (h : (l.drop off).take (xs.length * 1) = ints xs) {i : Nat} (hi : i < xs.length) :
    l[off + i * 1]? = some (.int .i64 xs[i]) := by
  have h1 := RoSl.elem (f := fun x => [Value.int .i64 x]) (m := 1) (fun _ => rfl) hl h hi
  obtain ⟨h2, h3⟩ := seg?_eq _ _ _ h1
  have h4 := congrArg (fun l => l[0]?) h3
  simp only [List.getElem?_cons_zero] at h4
  rw [List.getElem?_take, if_pos (by decide), List.getElem?_drop] at h4
  simpa using h4.symm
def i64s (a : Int) : Prop := -9223372036854775808 ≤ a ∧ a ≤ 9223372036854775807
theorem wrap_in {a : Int} (h : i64s a) : IntKind.i64.wrap a = a := by rw [IntKind.wrap_i64]; unfold i64s at h; omega

/-! ### Strings of bytes -/
def bstr (l : List Int) : ByteArray := ⟨(l.map fun n => UInt8.ofNat n.toNat).toArray⟩
def u8ok (l : List Int) : Prop := ∀ x ∈ l, 0 ≤ x ∧ x < 256
theorem bstr_toList (l : List Int) : (bstr l).toList = l.map fun n => UInt8.ofNat n.toNat := by unfold bstr; rw [ByteArray.toList_mk]
theorem bstr_size (l : List Int) : (bstr l).size = l.length := by simp [bstr, ByteArray.size]
theorem bstr_eq {a b : List Int} (ha : u8ok a) (hb : u8ok b) : ((bstr a).toList == (bstr b).toList) = decide (a = b) := by
  rw [bstr_toList, bstr_toList]
  have : (a.map fun n => UInt8.ofNat n.toNat) = (b.map fun n => UInt8.ofNat n.toNat) ↔ a = b := by
    constructor
    · intro h
      induction a generalizing b with
      | nil => cases b <;> simp_all
      | cons x a ih =>
        cases b with
        | nil => simp at h
        | cons y b =>
          simp only [List.map_cons, List.cons.injEq] at h
          have hx := ha x (by simp)
          have hy := hb y (by simp)
          have hxy : x = y := by
            have h1 := congrArg UInt8.toNat h.1
            simp only [UInt8.toNat_ofNat'] at h1
            omega
          rw [hxy, ih (fun z hz => ha z (by simp [hz])) (fun z hz => hb z (by simp [hz])) h.2]
    · rintro rfl; rfl
  by_cases h : a = b
  · subst h; simp
  · rw [decide_eq_false h]
    exact beq_eq_false_iff_ne.2 fun h3 => h (this.1 h3)
theorem foldl_push (ns : List Int) : ∀ s : ByteArray, ns.foldl (fun r n => r.push (UInt8.ofNat n.toNat)) s = ⟨s.data ++ (ns.map fun n => UInt8.ofNat n.toNat).toArray⟩ := by
  induction ns with
  | nil => intro s; simp
  | cons a ns ih =>
    intro s
    rw [List.foldl_cons, ih]
    simp [ByteArray.push]
def u8s (bs : List Int) : List Value := bs.flatMap fun x => [.int .u8 x]
theorem u8s_map (bs : List Int) : u8s bs = bs.map (.int .u8) := by
  unfold u8s
  induction bs with
  | nil => rfl
  | cons b bs ih => simp [ih]
theorem u8s_len (bs : List Int) : (u8s bs).length = bs.length := by simp [u8s_map]
theorem u8s_one (bs : List Int) : allOne (u8s bs) = true := by
  rw [u8s_map]
  induction bs with
  | nil => rfl
  | cons b bs ih => exact ih
theorem u8s_inj {a b : List Int} (h : u8s a = u8s b) : a = b := by
  rw [u8s_map, u8s_map] at h
  induction a generalizing b with
  | nil => cases b <;> simp_all
  | cons x a ih =>
    cases b with
    | nil => simp at h
    | cons y b =>
      simp only [List.map_cons, List.cons.injEq, Value.int.injEq, true_and] at h
      rw [h.1, ih h.2]
theorem u8s_take (bs : List Int) (q : Nat) : (u8s bs).take q = u8s (bs.take q) := by rw [u8s_map, u8s_map, List.map_take]
theorem u8s_drop (bs : List Int) (q : Nat) : (u8s bs).drop q = u8s (bs.drop q) := by rw [u8s_map, u8s_map, List.map_drop]
theorem u8s_append (a b : List Int) : u8s (a ++ b) = u8s a ++ u8s b := by simp [u8s]
theorem OpVal.bytesStr {T : Tab} (hT : TabOk P T) {s t e ty : TypeId} {x : Operand} {a : Option Addr} {len cap : Nat} {bs : List Int} {ro : HL}
    (hx : ev? ρ x = some (.slice a len cap)) (hs : look? T.sls s = some e) (he : look? T.ints e = some .u8) (ht : hasNat T.strs t = true)
    (h : RoSl 1 (u8s bs) a len ro) (hro : ∀ p ∈ ro, At R L p.1 p.2) : OpVal P n R cx (.convert s t x) ty ρ L (.string (bstr bs)) := by
  refine ⟨fun oo ac w ho hty hf hst => ?_⟩
  have h1 := hT.sls _ (look?_mem hs)
  have h2 := hT.ints _ (look?_mem he)
  have h3 := hT.strs _ (hasNat_mem ht)
  have hlen : bs.length = len := by have := h.1; rw [u8s_len] at this; omega
  have key : (Conv.bytesToString (.slice a len cap)).run P w = .ok (.string (bstr bs)) w := by
    rcases h.2 with ⟨h0, _⟩ | ⟨b, off, l, e', fr, rfl, rfl, hl, hc⟩
    · subst h0
      have : bs = [] := List.eq_nil_of_length_eq_zero hlen
      subst this
      cases a with
      | none => rfl
      | some a =>
        have := run_bytesToString (P := P) w a 0 cap [] (by simp [loadCells, loadCellsFrom])
        rw [this]
        rfl
    · have hg := (hro (b, .cells l.toArray e' fr) (by simp)).heap hst
      have hld := run_loadCells_seg (P := P) (m := len) (vs := bs.map (.int .u8)) hg (by rw [seg?_of l off len (by omega), ← u8s_map, ← hc, Nat.mul_one])
      rw [run_bytesToString (P := P) w _ len cap bs hld, foldl_push]
      simp [bstr]
  unfold execOp; rw [ho]
  simp only [hf.ev hx]
  rw [Sem.run_bind, run_convert_bytes_string w s t e a len cap h1 h2 h3, key]
  rfl
theorem bstr_cells (bs : List Int) (h : u8ok bs) : ((bstr bs).data.map fun b => Value.int .u8 b.toNat).toList = u8s bs := by
  rw [u8s_map]
  simp only [bstr, Array.toList_map, List.map_map]
  refine List.map_congr_left fun x hx => ?_
  have := h x hx
  simp only [Function.comp, UInt8.toNat_ofNat', Value.int.injEq, true_and]
  omega
theorem St.frz (w : World) (i : Nat) (S : List Nat) (cs : Array Value) (e : TypeId) : ∃ fr, St w S [] [[(w.heap.size, .cells cs e fr)]] (({ w with drawn := i }.alloc (.cells cs e (0, 0))).freeze ⟨w.heap.size, cs.size, none⟩ 1) := by
  refine ⟨(cs.size, cs.size + 1), ?_, by simp [ids], ?_, ?_, ?_, fun _ h => (by cases h), ⟨rfl, rfl, rfl⟩⟩
  · intro p hp
    simp at hp
    subst hp
    simp only [World.freeze, World.alloc]
    rw [if_neg (by decide)]
    simp only [Array.getElem?_modify, if_true, Array.getElem?_push_size, Option.map_some]
    rfl
  · intro b hb _
    simp only [World.freeze, World.alloc]
    rw [if_neg (by decide)]
    simp only [Array.getElem?_modify]
    rw [if_neg (by omega), Array.getElem?_push_lt hb, Array.getElem?_eq_getElem hb]
  · intro b hb
    simp [ids] at hb
    subst hb
    exact .inr (Nat.le_refl _)
  · simp [World.freeze, World.alloc]
def bcells (bs : List Int) (cap : Nat) : Array Value := ((bstr bs).data.map fun b : UInt8 => Value.int .u8 b.toNat) ++ Array.replicate (cap - bs.length) (Value.int .u8 0)
theorem strBytes {T : Tab} (hT : TabOk P T) {s t e ty : TypeId} {x : Operand} {bs : List Int}
    (hx : ev? ρ x = some (.string (bstr bs))) (hs : hasNat T.strs s = true) (ht : look? T.sls t = some e) (he : look? T.ints e = some .u8) (hu : u8ok bs) :
    Prim P n R cx (.convert s t x) ty ρ L [] (fun v L' => ∃ a cap H, v = .slice a bs.length cap ∧ L' = [H] ∧ RoSl 1 (u8s bs) a bs.length H ∧ bs.length ≤ cap) := by
  refine ⟨fun oo ac w ho hty hf hst => ?_⟩
  have h1 := hT.strs _ (hasNat_mem hs)
  have h2 := hT.ints _ (look?_mem he)
  have h3 := hT.sls _ (look?_mem ht)
  have hge := grownCap_ge w bs.length 0 e
  obtain ⟨fr, hfr⟩ := St.frz w (w.drawn + 1) [] (bcells bs (grownCap w bs.length 0 e)) e
  refine ⟨.slice (some ⟨w.heap.size, 0, none⟩) bs.length (grownCap w bs.length 0 e), _, _, ?_, ⟨_, _, _, rfl, rfl, ?_, hge⟩, by simpa [ids] using hfr⟩
  · have key : (convert s t (.string (bstr bs))).run P w = .ok (.slice (some ⟨w.heap.size, 0, none⟩) bs.length (grownCap w bs.length 0 e))
        (({ w with drawn := w.drawn + 1 }.alloc (.cells (bcells bs (grownCap w bs.length 0 e)) e (0, 0))).freeze ⟨w.heap.size, (bcells bs (grownCap w bs.length 0 e)).size, none⟩ 1) := by
      simp only [convert, Sem.run_bind, run_underlying h1, run_underlying h2, run_underlying h3, Result.andThen_ok, Conv.stringToBytes, bstr_size]
      rw [run_choose, if_neg (by simp [Question.forced])]
      simp only [Result.andThen_ok, newRow, markStringish, Sem.run_bind, run_newObj, Sem.run_pure]
      have hsh : (({ w with drawn := w.drawn + 1 } : World).alloc (.cells (bcells bs (grownCap w bs.length 0 e)) e (0, 0))).shape? w.heap.size = some (e, (bcells bs (grownCap w bs.length 0 e)).size) := by
        simp [World.shape?, World.alloc]
      have hc : (Question.appendCap bs.length 0 e).cut (w.tape w.drawn (.appendCap bs.length 0 e)) = grownCap w bs.length 0 e := rfl
      rw [hc]
      change (Result.andThen (Result.andThen (Sem.run P (shape w.heap.size) (({ w with drawn := w.drawn + 1 } : World).alloc (.cells (bcells bs (grownCap w bs.length 0 e)) e (0, 0)))) _) _) = _
      rw [run_shape, hsh]
      rfl
    unfold execOp; rw [ho]
    simp only [hf.ev hx]
    rw [Sem.run_bind, key]
    rfl
  · refine ⟨by rw [u8s_len, Nat.mul_one], .inr ⟨w.heap.size, 0, (bcells bs (grownCap w bs.length 0 e)).toList, e, fr, rfl, by rw [Array.toArray_toList], ?_, ?_⟩⟩
    · unfold bcells; rw [Array.toList_append, bstr_cells bs hu]; simp [u8s_len]
    · unfold bcells; rw [Array.toList_append, bstr_cells bs hu, List.drop_zero]
      rw [List.take_append_of_le_length (by rw [u8s_len]; omega), List.take_of_length_le (by rw [u8s_len]; omega)]

/-- A slice that is read: where it stands, its elements, the blocks. -/
structure SlD (X : Type) where
  a : Option Addr
  cap : Nat
  xs : List X
  ro : HL
theorem seg?_get {l vs : List Value} {o m : Nat} (h : seg? l o m = some vs) {k : Nat} (hk : k < m) : l[o + k]? = vs[k]? := by
  obtain ⟨h1, h2⟩ := seg?_eq l o m h
  rw [h2, List.getElem?_take, if_pos hk, List.getElem?_drop]
/-- What is read of an element of a slice that is read. -/
theorem RoSl.at {α : Type} {f : α → List Value} {m : Nat} (hf : ∀ x, (f x).length = m) {xs : List α} {a : Option Addr} {ro : HL} (h : RoSl m (xs.flatMap f) a xs.length ro) {i : Nat} (hi : i < xs.length) :
    ∃ b off l e fr, a = some ⟨b, off, none⟩ ∧ ro = [(b, .cells (List.toArray l) e fr)] ∧ seg? l (off + i * m) m = some (f xs[i]) ∧ ∀ k < m, l[off + i * m + k]? = (f xs[i])[k]? := by
  rcases h.2 with ⟨h0, _⟩ | ⟨b, off, l, e, fr, h1, h2, h3, h4⟩
  · omega
  · have := RoSl.elem hf h3 h4 hi
    exact ⟨b, off, l, e, fr, h1, h2, this, fun k hk => seg?_get this hk⟩

/-! ### append, of whatever is read -/
theorem app0 {e m bytes : Nat} (hi : InfOk P e m bytes) {t ty : TypeId} {s x : Operand} {cs : List Value} {a ax : Option Addr} {len cap cx0 : Nat} {H : HL}
    (ht : P.underlying t = some (.slice e)) (hs : ev? ρ s = some (.slice a len cap)) (ho : Own m e cs a len cap H)
    (hH : ∀ p ∈ H, p ∈ L.flatten) (hx : ev? ρ x = some (.slice ax 0 cx0)) :
    Prim P n R cx (.call ⟨.builtin .append, #[s, x], #[t, t]⟩) ty ρ L [H] (fun v L' => v = .slice a len cap ∧ L' = [H]) := by
  obtain ⟨i, z, hi1, hi2, rfl, rfl, hi5, hi6⟩ := hi
  refine ⟨fun oo ac w hoo hty hf hst => ?_⟩
  refine ⟨_, _, w, ?_, ⟨rfl, rfl⟩, ?_⟩
  · unfold execOp
    rw [hoo]
    have hlc : len ≤ cap := by
      rcases ho.2 with ⟨_, h1, h2, _⟩ | ⟨_, _, _, _, h1, _⟩ <;> omega
    rcases ho.2 with ⟨rfl, rfl, rfl, rfl⟩ | ⟨b, l, rfl, rfl, _, hll, htake⟩
    · cases ax <;> simp [resolve, invoke, builtin, hf.ev hs, hf.ev hx, Builtin.append_, run_underlying ht, sizeOf, typeInfo, hi1, Builtin.lenOf, Builtin.firstCells, loadCells, loadCellsFrom]
    · cases ax <;> simp [resolve, invoke, builtin, hf.ev hs, hf.ev hx, Builtin.append_, run_underlying ht, sizeOf, typeInfo, hi1, Builtin.lenOf, Builtin.firstCells, hlc, storeCells, loadCells, loadCellsFrom]
  · have hmem : ∀ p ∈ [H].flatten, p ∈ L.flatten := by simpa using hH
    refine ⟨fun p hp => hst.has p (hmem p hp), ?_, fun _ _ _ => rfl, fun b hb => .inl hb, Nat.le_refl _, fun _ h => (by cases h), ⟨rfl, rfl, rfl⟩⟩
    rcases ho.2 with ⟨_, _, _, rfl⟩ | ⟨b, l, _, rfl, _⟩ <;> simp [ids]
theorem Prim.post {op : Op} {ty : TypeId} {pre : List HL} {post post' : Value → List HL → Prop} (h : Prim P n R cx op ty ρ L pre post) (hp : ∀ v L', post v L' → post' v L') : Prim P n R cx op ty ρ L pre post' :=
  ⟨fun oo a w h1 h2 hf hs => by obtain ⟨v, L', w', e1, e2, e3⟩ := h.go oo a w h1 h2 hf hs; exact ⟨v, L', w', e1, hp v L' e2, e3⟩⟩
theorem appRo {T : Tab} (hT : TabOk P T) {t e m bytes ty : Nat} {s x : Operand} {cs news : List Value} {a ax : Option Addr} {len cap nx cxx : Nat} {H ro : HL}
    (ht : look? T.sls t = some e) (hi : look? T.infs e = some (m, bytes)) (hs : ev? ρ s = some (.slice a len cap)) (ho : Own m e cs a len cap H) (hH : ∀ p ∈ H, p ∈ L.flatten)
    (hx : ev? ρ x = some (.slice ax nx cxx)) (hr : RoSl m news ax nx ro) (hro : ∀ p ∈ ro, At R L p.1 p.2) (h1 : allOne news = true) (hbig : (len + nx) * bytes ≤ 140737488355328) (hbig2 : len + nx ≤ 140737488355328) :
    Prim P n R cx (.call ⟨.builtin .append, #[s, x], #[t, t]⟩) ty ρ L [H] (fun v L' => ∃ a' cap' H', v = .slice a' (len + nx) cap' ∧ L' = [H'] ∧ Own m e (cs ++ news) a' (len + nx) cap' H') := by
  have hi' := hT.infs _ (look?_mem hi)
  have ht' := hT.sls _ (look?_mem ht)
  rcases hr.2 with ⟨h0, _⟩ | ⟨b, off, l, e', fr, rfl, rfl, hl, hc⟩
  · subst h0
    have hn : news = [] := List.eq_nil_of_length_eq_zero (by simpa using hr.1)
    subst hn
    exact (app0 hi' ht' hs ho hH hx).post fun v L' ⟨e1, e2⟩ => ⟨a, cap, H, e1, e2, by rw [List.append_nil, Nat.add_zero]; exact ho⟩
  · exact append_some hi' ht' hs ho hH hx (hro (b, .cells l.toArray e' fr) (by simp)) (by rw [seg?_of l off (nx * m) hl, hc]) h1 hbig hbig2

/-! ### Chunks in another row -/
def order : List Nat → List HL → Option (List HL × List HL)
  | [], L => some ([], L)
  | i :: is, L => match remove? i L with
    | some (d, M) => match order is M with
      | some (r, X) => some (d :: r, X)
      | none => none
    | none => none
theorem order_perm : ∀ {is : List Nat} {L M X : List HL}, order is L = some (M, X) → L.flatten.Perm (M.flatten ++ X.flatten)
  | [], L, M, X, h => by simp only [order, Option.some.injEq, Prod.mk.injEq] at h; obtain ⟨rfl, rfl⟩ := h; simp
  | i :: is, L, M, X, h => by
    simp only [order] at h
    split at h
    · rename_i d M1 h1
      split at h
      · rename_i r X1 h2
        simp only [Option.some.injEq, Prod.mk.injEq] at h
        obtain ⟨rfl, rfl⟩ := h
        refine (remove?_perm h1).trans ?_
        simp only [List.flatten_cons, List.append_assoc]
        exact List.Perm.append_left d (order_perm h2)
      · cases h
    · cases h
theorem W.order (is : List Nat) {M X : List HL} (h : Sl.order is L = some (M, X)) (hk : W P n R cx k ρ M) : W P n R cx k ρ L :=
  ⟨fun a w hf hs => hk.go a w hf (hs.perm (order_perm h))⟩

theorem W.dropNil (hk : W P n R cx k ρ L) : W P n R cx k ρ ([] :: L) := W.regroup (by simp) hk
theorem W.split3 {A B C : HL} {M : List HL} (h : L = (A ++ (B ++ C)) :: M) (hk : W P n R cx k ρ (A :: B :: C :: M)) : W P n R cx k ρ L := by
  subst h
  exact W.regroup (by simp) hk

/-! ### Contracts with more than they ask -/
theorem Sel.front : ∀ (A B : List HL), Sel (A ++ B) A B
  | [], _ => .nil
  | _ :: A, B => .cons .here (Sel.front A B)
theorem Ctr.frame {f : FuncId} {args : List Value} {pre : List HL} {ro : HL} {post : Value → List HL → Prop} (h : Ctr P f args pre ro post) (X : List HL) :
    Ctr P f args (pre ++ X) ro (fun v L' => ∃ L1, L' = L1 ++ X ∧ post v L1) := by
  refine ⟨h.callable, fun w hhas hnd hro => ?_⟩
  have hst : St w (ids (pre ++ X).flatten) ro (pre ++ X) w := ⟨hhas, hnd, fun _ _ _ => rfl, fun b hb => .inl hb, Nat.le_refl _, hro, ⟨rfl, rfl, rfl⟩⟩
  refine (h.use hst (Sel.front pre X) RoIn.same).mono ?_
  rintro e w' ⟨v, L', he, hp, hs⟩
  exact ⟨v, L' ++ X, he, ⟨L', rfl, hp⟩, hs⟩
theorem Ctr.post {f : FuncId} {args : List Value} {pre : List HL} {ro : HL} {post post' : Value → List HL → Prop} (h : Ctr P f args pre ro post) (hp : ∀ v L', post v L' → post' v L') : Ctr P f args pre ro post' := by
  refine ⟨h.callable, fun w hhas hnd hro => (h.go w hhas hnd hro).mono ?_⟩
  rintro e w' ⟨v, L', he, hq, hs⟩
  exact ⟨v, L', he, hp v L' hq, hs⟩

/-! ### Callbacks -/
/-- The value 'fv', called with args. -/
structure CtrV (P : Program) (fv : Value) (args : List Value) (pre : List HL) (ro : HL) (post : Value → List HL → Prop) : Prop where
  go : ∃ f args', (∀ w, (do let d ← Deferred.ofValue fv args.toArray; invoke d.target d.args : Sem Next).run P w = .ok (.enter f args'.toArray) w) ∧ Ctr P f args' pre ro post
theorem Ctr.v {f : FuncId} {fst args cap all : List Value} {pre : List HL} {ro : HL} {post : Value → List HL → Prop} (h : Ctr P f all pre ro post) (ha : fst ++ args ++ cap = all) :
    CtrV P (.func (.func f) fst.toArray cap.toArray) args pre ro post := by
  refine ⟨f, all, fun w => ?_, h⟩
  subst ha
  simp [Deferred.ofValue, invoke]
  simpa using h.callable (fst ++ args ++ cap).toArray w
theorem Ctr.m {f : FuncId} {t : TypeId} {name : String} {args all : List Value} {pre : List HL} {ro : HL} {post : Value → List HL → Prop} (h : Ctr P f all pre ro post)
    (ha : ∀ w, (do let d ← Deferred.ofValue (.func (.methodOf t name) #[] #[]) args.toArray; invoke d.target d.args : Sem Next).run P w = .ok (.enter f all.toArray) w) :
    CtrV P (.func (.methodOf t name) #[] #[]) args pre ro post := ⟨f, all, ha, h⟩
theorem W.callV {all : Array Oper} {d : Nat} {c : Call} {ty : TypeId} {pos : String} {af : Array Edge} {l : List Oper} {fo : Operand} {xs : Array Operand} {tys : Array TypeId}
    {fv : Value} {vs : List Value} {pre rest : List HL} {ro : HL} {post : Value → List HL → Prop}
    (hc : c = ⟨.value fo, xs, tys⟩) (hfo : ev? ρ fo = some fv) (hxs : evs? ρ xs.toList = some vs)
    (hsp : CtrV P fv vs pre ro post) (hsel : Sel L pre rest) (hro : RoIn R rest ro) (hd : d < n)
    (hk : ∀ v L', post v L' → W P n R cx (.ops all l :: k) ((d, v) :: ρ) (L' ++ rest)) :
    W P n R cx (.ops all (⟨some d, .call c, ty, pos, af, none⟩ :: l) :: k) ρ L := by
  refine ⟨fun a w hf hs => ?_⟩
  have hxs' := hf.evs hxs
  have hx : xs.map a.eval = vs.toArray := by cases xs; simp at hxs'; simp [hxs']
  simp only [mean, wpList, Region.wanted, if_true]
  refine .inl ?_
  obtain ⟨f, args', hrun, hctr⟩ := hsp.go
  unfold Oper.wp execOp
  subst hc
  have hr : (do let d ← resolve a.eval ⟨.value fo, xs, tys⟩ ty; invoke d.target d.args : Sem Next).run P w = .ok (.enter f args'.toArray) w := by
    simp only [resolve, hf.ev hfo, hx]
    exact hrun w
  simp only [hr]
  simp only [Oper.upon]
  refine (hctr.use hs hsel hro).mono ?_
  rintro e w' ⟨v, L', rfl, hpost, hst⟩
  exact (hk v L' hpost).go _ _ (hf.put hd v) hst
end
end Go.Sl
