/-
  Frames and partitions, as plain Lean sees them; contracts of part.New, Len, At.
-/
import Derived.Test.YtgipjpiiomgjjaaAp
import Derived.Test.YtgipjpiiomgjjaaMp
import Derived.Test.YtgipjpiiomgjjaaSt
namespace Go.Proofs.Ytgipjpiiomgjjaa
set_option linter.unusedVariables false
open Go Go.Sl Go.IntWalk
set_option maxHeartbeats 2000000
structure Fr where
  used : Bool
  dirty : Bool
  ref : Bool
  pins : Int
  page : Int
  b : List Int
def Fr.l (f : Fr) : List Value := .bool f.used :: .bool f.dirty :: .bool f.ref :: .int .i64 f.pins :: .int .i64 f.page :: f.b.map (.int .u8)
def Fr.v (f : Fr) : Value := .agg f.l.toArray
def Fr.Ok (f : Fr) : Prop := f.b.length = 32
def Fr.zero : Fr := ⟨false, false, false, 0, 0, List.replicate 32 0⟩
theorem Fr.zero_ok : Fr.zero.Ok := rfl
theorem Fr.l_len {f : Fr} (h : f.Ok) : f.l.length = 37 := by unfold Fr.Ok at h; simp [Fr.l, h]
theorem one_ints (kk : IntKind) : ∀ b : List Int, allOne (b.map (.int kk)) = true
  | [] => rfl
  | x :: b => one_ints kk b
theorem Fr.l_one (f : Fr) : allOne f.l = true := one_ints .u8 f.b
structure Pt where
  fs : List Fr
  tbl : List (Int × Int)
  hand : Int
def Pt.Ok (p : Pt) : Prop := (∀ f ∈ p.fs, f.Ok) ∧ 1 ≤ p.fs.length ∧ p.fs.length ≤ 64
def flat (fs : List Fr) : List Value := fs.flatMap Fr.l
theorem flat_len {fs : List Fr} (h : ∀ f ∈ fs, f.Ok) : (flat fs).length = fs.length * 37 := by
  induction fs with
  | nil => rfl
  | cons f fs ih =>
    have h1 := ih (fun g hg => h g (by simp [hg]))
    unfold flat at h1 ⊢
    simp only [List.flatMap_cons, List.length_append, h1, List.length_cons, Fr.l_len (h f (by simp))]
    omega
theorem flat_append (a b : List Fr) : flat (a ++ b) = flat a ++ flat b := by simp [flat]
theorem flat_split {fs : List Fr} {i : Nat} (hi : i < fs.length) : flat fs = flat (fs.take i) ++ fs[i].l ++ flat (fs.drop (i + 1)) := by
  have : fs = fs.take i ++ (fs[i] :: fs.drop (i + 1)) := by simp
  conv => lhs; rw [this]
  rw [flat_append]
  simp only [flat, List.flatMap_cons, List.append_assoc]
theorem take_flat_len {fs : List Fr} (h : ∀ f ∈ fs, f.Ok) {i : Nat} (hi : i ≤ fs.length) : (flat (fs.take i)).length = i * 37 := by
  rw [flat_len (fun f hf => h f (List.mem_of_mem_take hf)), List.length_take]
  congr 1
  omega
theorem flat_set {fs : List Fr} {i : Nat} (hi : i < fs.length) (g : Fr) : flat (fs.set i g) = flat (fs.take i) ++ g.l ++ flat (fs.drop (i + 1)) := by
  rw [flat_split (by simpa using hi)]
  rw [List.take_set_of_le (Nat.le_refl _), List.drop_set_of_lt (by omega)]
  simp
/-! Reading and writing in the midst of a row -/
theorem get_mid {A M B : List Value} {off o : Nat} (hA : A.length = off) (ho : o < M.length) : (A ++ M ++ B)[off + o]? = M[o]? := by
  subst hA
  rw [List.append_assoc, List.getElem?_append_right (by omega), List.getElem?_append_left (by omega)]
  congr 1
  omega
theorem seg_mid {A M B vs : List Value} {off o m : Nat} (hA : A.length = off) (h : seg? M o m = some vs) : seg? (A ++ M ++ B) (off + o) m = some vs := by
  obtain ⟨h1, h2⟩ := seg?_eq M o m h
  subst hA h2
  rw [seg?_of _ _ _ (by simp; omega)]
  congr 1
  rw [List.append_assoc, List.drop_append, List.drop_of_length_le (by omega), List.nil_append, show A.length + o - A.length = o from by omega, List.drop_append_of_le_length (by omega), List.take_append_of_le_length (by simp; omega)]
theorem splice_mid {A M B M' vs : List Value} {off o : Nat} (hA : A.length = off) (h : splice? M o vs = some M') : splice? (A ++ M ++ B) (off + o) vs = some (A ++ M' ++ B) := by
  obtain ⟨h1, h2⟩ := splice?_eq M o vs h
  subst hA h2
  rw [splice?_of _ _ _ (by simp; omega)]
  congr 1
  simp only [List.append_assoc]
  rw [List.take_append, List.take_of_length_le (by omega), show A.length + o - A.length = o from by omega, List.take_append_of_le_length (by omega), List.append_assoc]
  congr 2
  congr 1
  rw [List.drop_append, List.drop_of_length_le (by omega), List.nil_append, show A.length + o + vs.length - A.length = o + vs.length from by omega, List.drop_append_of_le_length (by omega)]
theorem seg_all (l : List Value) : seg? l 0 l.length = some l := by rw [seg?_of _ _ _ (by omega)]; simp
theorem splice_all {l vs : List Value} (h : vs.length = l.length) : splice? l 0 vs = some vs := by rw [splice?_of _ _ _ (by omega)]; simp [h]
theorem seg_frame {fs : List Fr} (h : ∀ f ∈ fs, f.Ok) {i : Nat} (hi : i < fs.length) : seg? (flat fs) (0 + i * 37) 37 = some fs[i].l := by
  rw [flat_split hi]
  have := seg_mid (A := flat (fs.take i)) (B := flat (fs.drop (i + 1))) (o := 0) (take_flat_len h (Nat.le_of_lt hi)) (seg_all fs[i].l)
  rw [Fr.l_len (h _ (List.getElem_mem hi)), Nat.add_zero] at this
  rw [Nat.zero_add]
  exact this
/-- The partition p stands at block b, in the chunk H. -/
def PtAtF (fs : List Fr) (tbl : List (Int × Int)) (hand : Int) (b : Nat) (H : HL) : Prop := ∃ bf bm es clock, H = [(b, .cells #[.slice (some ⟨bf, 0, none⟩) fs.length fs.length, .map (some bm), .int .i64 hand] 97 (0, 0)), (bf, .cells (flat fs).toArray 58 (0, 0)), (bm, .map es clock)] ∧
  MapIs .i64 (.int .i64) es.toList tbl
def PtAt (p : Pt) (b : Nat) (H : HL) : Prop := PtAtF p.fs p.tbl p.hand b H
def Pt.new (n : Nat) : Pt := ⟨List.replicate n Fr.zero, [], 0⟩
theorem Pt.new_ok {n : Nat} (h1 : 1 ≤ n) (h2 : n ≤ 64) : (Pt.new n).Ok := ⟨fun f hf => by simp [Pt.new] at hf; obtain ⟨_, rfl⟩ := hf; exact Fr.zero_ok, by simpa [Pt.new], by simpa [Pt.new]⟩
theorem rep_flat : ∀ n : Nat, repL n Fr.zero.l = flat (List.replicate n Fr.zero)
  | 0 => rfl
  | n + 1 => by rw [repL, rep_flat n]; rfl
theorem New_spec (n : Int) : Ctr Try.prog 24 [.int .i64 n] [] [] (fun v L' => (¬ (1 ≤ n ∧ n ≤ 64) ∧ v = .tuple #[.pointer none, .int .i64 1] ∧ L' = []) ∨
    ((1 ≤ n ∧ n ≤ 64) ∧ ∃ b H, v = .tuple #[.pointer (some ⟨b, 0, none⟩), .int .i64 0] ∧ L' = [H] ∧ PtAt (Pt.new n.toNat) b H)) := by
  refine Ctr.enter (n := 15) [.tmp 2, .tmp 3] [(0, _)] Try.func24 rfl rfl rfl (lb rfl) Try.call24 ⟨rfl, trivial⟩ ?_
  intro cx fin fin0
  refine aG ?_
  by_cases h1 : n < 1
  · refine aSk ?_ (hw := by exact gd h1)
    refine aSk ?_ (hw := by exact gd h1)
    refine aPT ?_ (hb := by exact gd h1)
    refine aT ?_
    refine W.ret (fin _ _ (FinOk.mk' ([]) (.tmp rfl (.tmp rfl .nil)) (by repeat (first | exact Sel.nil | (apply Sel.cons; (repeat (first | exact Pick.here | apply Pick.there))))) rfl ?_))
    exact .inl ⟨by omega, rfl, rfl⟩
  · refine aGo ?_ (hw := by exact gd h1)
    refine aGo ?_ (hw := by exact gd h1)
    refine aPF ?_ (hb := by exact gd h1)
    by_cases h2 : n > 64
    · refine aT ?_ (hb := by exact gd h2)
      refine W.ret (fin _ _ (FinOk.mk' ([]) (.tmp rfl (.tmp rfl .nil)) (by repeat (first | exact Sel.nil | (apply Sel.cons; (repeat (first | exact Pick.here | apply Pick.there))))) rfl ?_))
      exact .inl ⟨by omega, rfl, rfl⟩
    · refine aF ?_ (hb := by exact gd h2)
      obtain ⟨m, rfl⟩ : ∃ m : Nat, n = (m : Int) := ⟨n.toNat, by omega⟩
      refine aW (NewOf.mks (bytes := 56) (len := m) (cap := m) tab_ok rfl rfl rfl rfl rfl rfl rfl rfl rfl (Nat.le_refl _) (by omega) (by omega)) ?_
      intro _
      refine aG ?_
      rename_i bf
      refine aW (NewOf.map) ?_
      intro _
      refine aG ?_
      rename_i bm
      refine aBu (ps := [_, _]) ?_
      repeat (first | refine gw ?_ | refine gN fun _ => ?_ | refine gB fun _ => ?_ | fail)
      refine W.group [0, 1, 0] rfl rfl ?_
      refine W.ret (fin _ _ (FinOk.first 1 (.tmp rfl (.tmp rfl .nil)) rfl ?_))
      refine .inr ⟨⟨by omega, by omega⟩, _, _, rfl, rfl, bf, bm, #[], 0, ?_, rfl⟩
      have e : repL m [.bool false, .bool false, .bool false, .int .i64 0, .int .i64 0, .int .u8 0, .int .u8 0, .int .u8 0, .int .u8 0, .int .u8 0, .int .u8 0, .int .u8 0, .int .u8 0, .int .u8 0, .int .u8 0, .int .u8 0, .int .u8 0, .int .u8 0, .int .u8 0, .int .u8 0, .int .u8 0, .int .u8 0, .int .u8 0, .int .u8 0, .int .u8 0, .int .u8 0, .int .u8 0, .int .u8 0, .int .u8 0, .int .u8 0, .int .u8 0, .int .u8 0, .int .u8 0, .int .u8 0, .int .u8 0, .int .u8 0, .int .u8 0] = flat (List.replicate m Fr.zero) := rep_flat m
      simp [Pt.new, e]
end Go.Proofs.Ytgipjpiiomgjjaa
