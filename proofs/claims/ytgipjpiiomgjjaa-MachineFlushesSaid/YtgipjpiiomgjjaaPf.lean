/-
  What is done with one frame: Pin, Unpin, Free, Zero, Get, Put; cell.own, fits, Get, Put.
-/
import Derived.Test.YtgipjpiiomgjjaaPd
namespace Go.Proofs.Ytgipjpiiomgjjaa
set_option linter.unusedVariables false
open Go Go.Sl Go.IntWalk
set_option maxHeartbeats 2000000
set_option maxRecDepth 20000
theorem own_spec (bs : List Int) (hl : bs.length ≤ 1000) (a : Option Addr) (cap : Nat) (ro : HL) (hro : RoSl 1 (u8s bs) a bs.length ro) :
    Ctr Try.prog 91 [.slice a bs.length cap] [] ro (fun v L' => ∃ b, v = .slice (some ⟨b, 0, none⟩) bs.length bs.length ∧ L' = [[(b, .cells (u8s bs).toArray 5 (0, 0))]]) := by
  refine Ctr.enter (n := 11) [.tmp 2] [(0, _)] Try.func91 rfl rfl rfl (lb rfl) Try.call91 ⟨rfl, trivial⟩ ?_
  intro cx fin fin0
  refine aG ?_
  refine aW (NewOf.mks (bytes := 1) (len := bs.length) (cap := bs.length) tab_ok rfl rfl rfl rfl rfl rfl rfl rfl rfl (Nat.le_refl _) (by omega) (by omega)) ?_
  intro _
  refine aG ?_
  rename_i b
  have hz : repL bs.length [.int .u8 0] = List.replicate bs.length (.int .u8 0) := by
    generalize bs.length = m
    induction m with
    | zero => rfl
    | succ m ih => rw [repL, ih]; rfl
  rw [hz]
  refine aPr (copyTo (b := b) (ex := 5) (off := 0) (q := bs.length) (l := List.replicate bs.length (.int .u8 0)) tab_ok rfl rfl rfl rfl hro (fun p hp => .inr hp) (by simp) (u8s_one bs) (by omega) (by simp)) ?_
  rintro _ _ ⟨rfl, rfl⟩
  refine aG ?_
  refine W.ret (fin _ _ (FinOk.first 1 (.tmp rfl .nil) rfl ?_))
  refine ⟨b, rfl, ?_⟩
  have h1 : (u8s bs).take bs.length = u8s bs := List.take_of_length_le (by rw [u8s_len]; exact Nat.le_refl _)
  simp [h1]
def fits (pl off n : Int) : Int := if pl = 32 then (if off < 0 ∨ n < 0 ∨ off > 32 ∨ n > 32 - off then 4 else 0) else 2
theorem fits_spec (a : Option Addr) (pl cap : Nat) (off n : Int) (ho : -9223372036854775808 ≤ off ∧ off ≤ 9223372036854775807) : Ctr Try.prog 104 [.slice a pl cap, .int .i64 off, .int .i64 n] [] [] (fun v L' => v = .int .i64 (fits pl off n) ∧ L' = []) := by
  refine Ctr.enter (n := 28) [.tmp 6] [(0, _), (1, _), (2, _)] Try.func104 rfl rfl rfl (lb rfl) Try.call104 ⟨rfl, rfl, rfl, trivial⟩ ?_
  intro cx fin fin0
  refine aG ?_
  by_cases h : pl = 32
  · subst h
    refine aF ?_ (hb := by rfl)
    by_cases h1 : off < 0
    · repeat (first | (refine W.isGuard ?_; first | refine aGo ?_ (hw := by exact gd h1) | refine aSk ?_ (hw := by exact gd h1) | refine aUn ?_) | (refine W.isPick ?_; first | refine aPT ?_ (hb := by exact gd h1) | refine aPF ?_ (hb := by exact gd h1)) | (refine W.isBin ?_; first | refine aV (OpVal.neBool tab_ok rfl rfl rfl) ?_ | refine aV (OpVal.eqBool tab_ok rfl rfl rfl) ?_ | refine aV (OpVal.eqNil tab_ok rfl rfl rfl) ?_ | refine aV (OpVal.neNil tab_ok rfl rfl rfl) ?_) | fail)
      refine aT ?_ (hb := by exact gd h1)
      refine W.ret (fin _ _ (FinOk.mk' ([]) (.tmp rfl .nil) (by repeat (first | exact Sel.nil | (apply Sel.cons; (repeat (first | exact Pick.here | apply Pick.there))))) rfl ?_))
      exact ⟨by simp [pack, fits, h1], rfl⟩
    by_cases h2 : n < 0
    · repeat (first | (refine W.isGuard ?_; first | refine aGo ?_ (hw := by exact gd (gc2 h1 h2)) | refine aSk ?_ (hw := by exact gd (gc2 h1 h2)) | refine aUn ?_) | (refine W.isPick ?_; first | refine aPT ?_ (hb := by exact gd (gc2 h1 h2)) | refine aPF ?_ (hb := by exact gd (gc2 h1 h2))) | (refine W.isBin ?_; first | refine aV (OpVal.neBool tab_ok rfl rfl rfl) ?_ | refine aV (OpVal.eqBool tab_ok rfl rfl rfl) ?_ | refine aV (OpVal.eqNil tab_ok rfl rfl rfl) ?_ | refine aV (OpVal.neNil tab_ok rfl rfl rfl) ?_) | fail)
      refine aT ?_ (hb := by exact gd (gc2 h1 h2))
      refine W.ret (fin _ _ (FinOk.mk' ([]) (.tmp rfl .nil) (by repeat (first | exact Sel.nil | (apply Sel.cons; (repeat (first | exact Pick.here | apply Pick.there))))) rfl ?_))
      exact ⟨by simp [pack, fits, h1, h2], rfl⟩
    by_cases h3 : off > 32
    · repeat (first | (refine W.isGuard ?_; first | refine aGo ?_ (hw := by exact gd (gc3 h1 h2 h3)) | refine aSk ?_ (hw := by exact gd (gc3 h1 h2 h3)) | refine aUn ?_) | (refine W.isPick ?_; first | refine aPT ?_ (hb := by exact gd (gc3 h1 h2 h3)) | refine aPF ?_ (hb := by exact gd (gc3 h1 h2 h3))) | (refine W.isBin ?_; first | refine aV (OpVal.neBool tab_ok rfl rfl rfl) ?_ | refine aV (OpVal.eqBool tab_ok rfl rfl rfl) ?_ | refine aV (OpVal.eqNil tab_ok rfl rfl rfl) ?_ | refine aV (OpVal.neNil tab_ok rfl rfl rfl) ?_) | fail)
      refine aT ?_ (hb := by exact gd (gc3 h1 h2 h3))
      refine W.ret (fin _ _ (FinOk.mk' ([]) (.tmp rfl .nil) (by repeat (first | exact Sel.nil | (apply Sel.cons; (repeat (first | exact Pick.here | apply Pick.there))))) rfl ?_))
      exact ⟨by simp [pack, fits, h1, h2, h3], rfl⟩
    by_cases h4 : n > 32 - off
    · repeat (first | (refine W.isGuard ?_; first | refine aGo ?_ (hw := by exact gd (gc4 h1 h2 h3 h4)) | refine aSk ?_ (hw := by exact gd (gc4 h1 h2 h3 h4)) | refine aUn ?_) | (refine W.isPick ?_; first | refine aPT ?_ (hb := by exact gd (gc4 h1 h2 h3 h4)) | refine aPF ?_ (hb := by exact gd (gc4 h1 h2 h3 h4))) | (refine W.isBin ?_; first | refine aV (OpVal.neBool tab_ok rfl rfl rfl) ?_ | refine aV (OpVal.eqBool tab_ok rfl rfl rfl) ?_ | refine aV (OpVal.eqNil tab_ok rfl rfl rfl) ?_ | refine aV (OpVal.neNil tab_ok rfl rfl rfl) ?_) | fail)
      refine aV (OpVal.sub rfl rfl (i64_in _ (by omega))) ?_
      repeat (first | (refine W.isGuard ?_; first | refine aGo ?_ (hw := by exact gd (gc4 h1 h2 h3 h4)) | refine aSk ?_ (hw := by exact gd (gc4 h1 h2 h3 h4)) | refine aUn ?_) | (refine W.isPick ?_; first | refine aPT ?_ (hb := by exact gd (gc4 h1 h2 h3 h4)) | refine aPF ?_ (hb := by exact gd (gc4 h1 h2 h3 h4))) | (refine W.isBin ?_; first | refine aV (OpVal.neBool tab_ok rfl rfl rfl) ?_ | refine aV (OpVal.eqBool tab_ok rfl rfl rfl) ?_ | refine aV (OpVal.eqNil tab_ok rfl rfl rfl) ?_ | refine aV (OpVal.neNil tab_ok rfl rfl rfl) ?_) | fail)
      refine aT ?_ (hb := by exact gd (gc4 h1 h2 h3 h4))
      refine W.ret (fin _ _ (FinOk.mk' ([]) (.tmp rfl .nil) (by repeat (first | exact Sel.nil | (apply Sel.cons; (repeat (first | exact Pick.here | apply Pick.there))))) rfl ?_))
      exact ⟨by simp [pack, fits, h1, h2, h3, h4], rfl⟩
    · repeat (first | (refine W.isGuard ?_; first | refine aGo ?_ (hw := by exact gd (gc4 h1 h2 h3 h4)) | refine aSk ?_ (hw := by exact gd (gc4 h1 h2 h3 h4)) | refine aUn ?_) | (refine W.isPick ?_; first | refine aPT ?_ (hb := by exact gd (gc4 h1 h2 h3 h4)) | refine aPF ?_ (hb := by exact gd (gc4 h1 h2 h3 h4))) | (refine W.isBin ?_; first | refine aV (OpVal.neBool tab_ok rfl rfl rfl) ?_ | refine aV (OpVal.eqBool tab_ok rfl rfl rfl) ?_ | refine aV (OpVal.eqNil tab_ok rfl rfl rfl) ?_ | refine aV (OpVal.neNil tab_ok rfl rfl rfl) ?_) | fail)
      refine aV (OpVal.sub rfl rfl (i64_in _ (by omega))) ?_
      repeat (first | (refine W.isGuard ?_; first | refine aGo ?_ (hw := by exact gd (gc4 h1 h2 h3 h4)) | refine aSk ?_ (hw := by exact gd (gc4 h1 h2 h3 h4)) | refine aUn ?_) | (refine W.isPick ?_; first | refine aPT ?_ (hb := by exact gd (gc4 h1 h2 h3 h4)) | refine aPF ?_ (hb := by exact gd (gc4 h1 h2 h3 h4))) | (refine W.isBin ?_; first | refine aV (OpVal.neBool tab_ok rfl rfl rfl) ?_ | refine aV (OpVal.eqBool tab_ok rfl rfl rfl) ?_ | refine aV (OpVal.eqNil tab_ok rfl rfl rfl) ?_ | refine aV (OpVal.neNil tab_ok rfl rfl rfl) ?_) | fail)
      refine aF ?_ (hb := by exact gd (gc4 h1 h2 h3 h4))
      refine W.ret (fin _ _ (FinOk.mk' ([]) (.tmp rfl .nil) (by repeat (first | exact Sel.nil | (apply Sel.cons; (repeat (first | exact Pick.here | apply Pick.there))))) rfl ?_))
      exact ⟨by simp [pack, fits, h1, h2, h3, h4], rfl⟩
  · refine aT ?_ (hb := by simp; omega)
    refine W.ret (fin _ _ (FinOk.mk' ([]) (.tmp rfl .nil) (by repeat (first | exact Sel.nil | (apply Sel.cons; (repeat (first | exact Pick.here | apply Pick.there))))) rfl ?_))
    refine ⟨?_, rfl⟩
    have : ¬ ((pl : Int) = 32) := by omega
    simp [pack, fits, this]
theorem fits_0 {pl off n : Int} (h : fits pl off n = 0) : pl = 32 ∧ 0 ≤ off ∧ 0 ≤ n ∧ off + n ≤ 32 := by
  unfold fits at h
  split at h
  · split at h
    · cases h
    · omega
  · cases h
theorem CGet_spec (pg : List Int) (hpg : pg.length ≤ 1000) (ro : HL) (a : Option Addr) (cap : Nat) (hcap : pg.length ≤ cap) (hro : RoSl 1 (u8s pg) a pg.length ro) (off n : Int) (ho : -9223372036854775808 ≤ off ∧ off ≤ 9223372036854775807) :
    Ctr Try.prog 99 [.slice a pg.length cap, .int .i64 off, .int .i64 n] [] ro (fun v L' =>
      (fits pg.length off n ≠ 0 ∧ v = .tuple #[.slice none 0 0, .int .i64 (fits pg.length off n)] ∧ L' = []) ∨
      (fits pg.length off n = 0 ∧ ∃ b, v = .tuple #[.slice (some ⟨b, 0, none⟩) n.toNat n.toNat, .int .i64 0] ∧ L' = [[(b, .cells (u8s ((pg.drop off.toNat).take n.toNat)).toArray 5 (0, 0))]])) := by
  have hF := fits_spec a pg.length cap off n ho
  by_cases h0 : fits pg.length off n = 0
  · obtain ⟨h1, h2, h3, h4⟩ := fits_0 h0
    obtain ⟨o, rfl⟩ : ∃ o : Nat, off = (o : Int) := ⟨off.toNat, by omega⟩
    obtain ⟨m, rfl⟩ : ∃ m : Nat, n = (m : Int) := ⟨n.toNat, by omega⟩
    rw [h0] at hF
    rcases hro.2 with ⟨h5, _⟩ | ⟨bx, ox, lx, ex, frx, rfl, rfl, hlx, hcx⟩
    · omega
    have hdl : ((pg.drop o).take m).length = m := by simp; omega
    obtain ⟨ro', hsub, hro'⟩ : ∃ ro', (∀ p ∈ ro', p ∈ [(bx, Obj.cells lx.toArray ex frx)]) ∧ RoSl 1 (u8s ((pg.drop o).take m)) (some ⟨bx, if cap = o then ox else ox + o * 1, none⟩) ((pg.drop o).take m).length ro' := by
      rw [hdl]
      by_cases hc : cap = o
      · exact ⟨[], fun _ h => (by cases h), by rw [u8s_len, hdl]; omega, .inl ⟨by omega, rfl⟩⟩
      · refine ⟨_, fun _ h => h, by rw [u8s_len, hdl]; omega, .inr ⟨bx, _, lx, ex, frx, by rw [if_neg hc], rfl, by omega, ?_⟩⟩
        rw [← u8s_take, ← u8s_drop, ← hcx, Nat.mul_one, Nat.mul_one, Nat.mul_one, List.drop_take, List.take_take, List.drop_drop, Nat.min_eq_left (by omega)]
    have hO := own_spec ((pg.drop o).take m) (by omega) (some ⟨bx, if cap = o then ox else ox + o * 1, none⟩) (cap - o) ro' hro'
    rw [hdl] at hO
    refine Ctr.enter (n := 23) [.tmp 6, .tmp 7] [(0, _), (1, _), (2, _)] Try.func99 rfl rfl rfl (lb rfl) Try.call99 ⟨rfl, rfl, rfl, trivial⟩ ?_
    intro cx fin fin0
    refine aG ?_
    refine aC (o := hF) (h := ?_)
    rintro _ _ ⟨rfl, rfl⟩
    refine aG ?_
    refine aF ?_ (hb := by rfl)
    refine aV (OpVal.add rfl rfl (i64_in _ (by omega))) ?_
    refine aV (OpVal.pieceG (l := o) (h := o + m) (c := cap) tab_ok rfl rfl rfl ⟨_, rfl⟩ ⟨_, rfl⟩ rfl (by omega) (by omega) (by omega)) ?_
    rw [Nat.add_sub_cancel_left]
    refine aC (o := hO) (h := ?_) (hro := RoIn.all hsub)
    rintro _ _ ⟨b, rfl, rfl⟩
    refine aG ?_
    refine W.ret (fin _ _ (FinOk.first 1 (.tmp rfl (.tmp rfl .nil)) rfl ?_))
    exact .inr ⟨h0, b, rfl, rfl⟩
  · refine Ctr.enter (n := 23) [.tmp 6, .tmp 7] [(0, _), (1, _), (2, _)] Try.func99 rfl rfl rfl (lb rfl) Try.call99 ⟨rfl, rfl, rfl, trivial⟩ ?_
    intro cx fin fin0
    refine aG ?_
    refine aC (o := hF) (h := ?_)
    rintro _ _ ⟨rfl, rfl⟩
    refine aG ?_
    refine aT ?_ (hb := by simpa using h0)
    refine W.ret (fin _ _ (FinOk.first 0 (.tmp rfl (.tmp rfl .nil)) rfl ?_))
    exact .inl ⟨h0, rfl, rfl⟩
theorem CPut_spec (pg : List Int) (hpg : pg.length ≤ 1000) (ro : HL) (a : Option Addr) (cap : Nat) (hro : RoSl 1 (u8s pg) a pg.length ro) (off : Int) (ho : -9223372036854775808 ≤ off ∧ off ≤ 9223372036854775807)
    (bs : List Int) (ab : Option Addr) (cb : Nat) (rb : HL) (hrb : RoSl 1 (u8s bs) ab bs.length rb) :
    Ctr Try.prog 100 [.slice a pg.length cap, .int .i64 off, .slice ab bs.length cb] [] (ro ++ rb) (fun v L' =>
      (fits pg.length off bs.length ≠ 0 ∧ v = .tuple #[.slice none 0 0, .int .i64 (fits pg.length off bs.length)] ∧ L' = []) ∨
      (fits pg.length off bs.length = 0 ∧ ∃ b, v = .tuple #[.slice (some ⟨b, 0, none⟩) pg.length pg.length, .int .i64 0] ∧ L' = [[(b, .cells (u8s (pg.take off.toNat ++ bs ++ pg.drop (off.toNat + bs.length))).toArray 5 (0, 0))]])) := by
  have hF := fits_spec a pg.length cap off bs.length ho
  have hO := own_spec pg hpg a cap ro hro
  by_cases h0 : fits pg.length off bs.length = 0
  · obtain ⟨h1, h2, h3, h4⟩ := fits_0 h0
    obtain ⟨o, rfl⟩ : ∃ o : Nat, off = (o : Int) := ⟨off.toNat, by omega⟩
    rw [h0] at hF
    refine Ctr.enter (n := 26) [.tmp 6, .tmp 7] [(0, _), (1, _), (2, _)] Try.func100 rfl rfl rfl (lb rfl) Try.call100 ⟨rfl, rfl, rfl, trivial⟩ ?_
    intro cx fin fin0
    refine aG ?_
    refine aC (o := hF) (h := ?_)
    rintro _ _ ⟨rfl, rfl⟩
    refine aG ?_
    refine aF ?_ (hb := by rfl)
    refine aC (o := hO) (h := ?_) (hro := RoIn.all (fun p hp => by simp [hp]))
    rintro _ _ ⟨b, rfl, rfl⟩
    refine aG ?_
    refine aV (OpVal.pieceG (l := o) (h := pg.length) (c := pg.length) tab_ok rfl rfl rfl ⟨_, rfl⟩ ⟨rfl, rfl⟩ rfl (by omega) (by omega) (by omega)) ?_
    by_cases hc : pg.length = o
    · have hb0 : bs = [] := List.eq_nil_of_length_eq_zero (by omega)
      subst hb0
      refine aPr (copyTo (b := b) (ex := 5) (q := 0) (l := u8s pg) tab_ok rfl rfl rfl rfl hrb (fun p hp => .inr (by simp [hp])) (by simp) (u8s_one []) (by simp) (by simp [hc, u8s_len])) ?_
      rintro _ _ ⟨rfl, rfl⟩
      refine aG ?_
      refine W.ret (fin _ _ (FinOk.first 1 (.tmp rfl (.tmp rfl .nil)) rfl ?_))
      refine .inr ⟨h0, b, rfl, ?_⟩
      simp [u8s]
    · refine aPr (copyTo (b := b) (ex := 5) (q := bs.length) (l := u8s pg) tab_ok rfl rfl rfl rfl hrb (fun p hp => .inr (by simp [hp])) (by simp) (u8s_one _) (by omega) (by rw [if_neg hc, u8s_len]; omega)) ?_
      rintro _ _ ⟨rfl, rfl⟩
      refine aG ?_
      refine W.ret (fin _ _ (FinOk.first 1 (.tmp rfl (.tmp rfl .nil)) rfl ?_))
      refine .inr ⟨h0, b, rfl, ?_⟩
      rw [if_neg hc, u8s_append, u8s_append, ← u8s_take, ← u8s_drop, Int.toNat_natCast, Nat.zero_add, Nat.mul_one]
      simp only [Nat.mul_one]
      have e1 : (u8s bs).take bs.length = u8s bs := List.take_of_length_le (by rw [u8s_len]; exact Nat.le_refl _)
      rw [e1]
  · refine Ctr.enter (n := 26) [.tmp 6, .tmp 7] [(0, _), (1, _), (2, _)] Try.func100 rfl rfl rfl (lb rfl) Try.call100 ⟨rfl, rfl, rfl, trivial⟩ ?_
    intro cx fin fin0
    refine aG ?_
    refine aC (o := hF) (h := ?_)
    rintro _ _ ⟨rfl, rfl⟩
    refine aG ?_
    refine aT ?_ (hb := by simpa using h0)
    refine W.ret (fin _ _ (FinOk.first 0 (.tmp rfl (.tmp rfl .nil)) rfl ?_))
    exact .inl ⟨h0, rfl, rfl⟩
/-! ### A frame -/
def Fr.Good (f : Fr) : Prop := f.Ok ∧ 0 ≤ f.pins ∧ f.pins ≤ 100 ∧ u8ok f.b
def Fr.pin (f : Fr) : Fr × Int := if f.used = false then (f, 6) else if 100 ≤ f.pins then (f, 13) else (⟨f.used, f.dirty, true, f.pins + 1, f.page, f.b⟩, 0)
def Fr.unpin (f : Fr) : Fr × Int := if f.pins = 0 then (f, 6) else (⟨f.used, f.dirty, f.ref, f.pins - 1, f.page, f.b⟩, 0)
def Fr.get (f : Fr) (off n : Int) : Fr × List Int × Int := if f.pins = 0 then (f, [], 6) else if fits 32 off n ≠ 0 then (f, [], fits 32 off n) else (⟨f.used, f.dirty, true, f.pins, f.page, f.b⟩, (f.b.drop off.toNat).take n.toNat, 0)
def putb (pg : List Int) (off : Int) (bs : List Int) : List Int := pg.take off.toNat ++ bs ++ pg.drop (off.toNat + bs.length)
def Fr.put (f : Fr) (off : Int) (bs : List Int) : Fr × Int := if f.pins = 0 then (f, 6) else if fits 32 off bs.length ≠ 0 then (f, fits 32 off bs.length) else (⟨f.used, true, true, f.pins, f.page, putb f.b off bs⟩, 0)
theorem putb_len {pg bs : List Int} {off : Int} (h : fits pg.length off bs.length = 0) : (putb pg off bs).length = pg.length := by
  have := fits_0 h
  simp [putb]
  omega
theorem Pin_spec (f : Fr) (hf : 0 ≤ f.pins) (A B : List Value) (bf off : Nat) (e : TypeId) (hA : A.length = off) :
    Ctr Try.prog 57 [.pointer (some ⟨bf, off, none⟩)] [[(bf, .cells (A ++ f.l ++ B).toArray e (0, 0))]] [] (fun v L' => v = .int .i64 f.pin.2 ∧ L' = [[(bf, .cells (A ++ f.pin.1.l ++ B).toArray e (0, 0))]]) := by
  have hu : (A ++ f.l ++ B)[off]? = some (.bool f.used) := get_mid hA (M := f.l) (o := 0) (by simp [Fr.l])
  have hp : (A ++ f.l ++ B)[off + 3]? = some (.int .i64 f.pins) := get_mid hA (M := f.l) (o := 3) (by simp [Fr.l])
  refine Ctr.enter (n := 25) [.tmp 2] [(0, _)] Try.func57 rfl rfl rfl (lb rfl) Try.call57 ⟨rfl, trivial⟩ ?_
  intro cx fin fin0
  refine aG ?_
  refine aV (OpVal.load tab_ok rfl (at_own 0 rfl) hu) ?_
  by_cases h1 : f.used = false
  · refine aT ?_ (hb := by exact gd h1)
    refine W.ret (fin _ _ (FinOk.first 1 (.tmp rfl .nil) rfl ?_))
    have : f.pin = (f, 6) := by unfold Fr.pin; rw [if_pos h1]
    rw [this]
    exact ⟨rfl, rfl⟩
  · refine aF ?_ (hb := by simpa using h1)
    refine aV (OpVal.load tab_ok rfl (at_own 0 rfl) hp) ?_
    by_cases h2 : 100 ≤ f.pins
    · refine aT ?_ (hb := by exact gd h2)
      refine W.ret (fin _ _ (FinOk.first 1 (.tmp rfl .nil) rfl ?_))
      have : f.pin = (f, 13) := by unfold Fr.pin; rw [if_neg h1, if_pos h2]
      rw [this]
      exact ⟨rfl, rfl⟩
    · refine aF ?_ (hb := by exact gd h2)
      refine aV (OpVal.load tab_ok rfl (at_own 0 rfl) hp) ?_
      refine aV (OpVal.add rfl rfl (i64_in _ (by omega))) ?_
      have hw1 : splice? (A ++ f.l ++ B) (off + 3) [.int .i64 (f.pins + 1)] = some (A ++ (Fr.mk f.used f.dirty f.ref (f.pins + 1) f.page f.b).l ++ B) := splice_mid hA (M := f.l) (o := 3) rfl
      refine W.store tab_ok rfl Upd.here rfl rfl rfl rfl rfl hw1 (W.step tab_ok rfl rfl ?_)
      have hw2 : splice? (A ++ (Fr.mk f.used f.dirty f.ref (f.pins + 1) f.page f.b).l ++ B) (off + 2) [.bool true] = some (A ++ (Fr.mk f.used f.dirty true (f.pins + 1) f.page f.b).l ++ B) := splice_mid hA (M := (Fr.mk f.used f.dirty f.ref (f.pins + 1) f.page f.b).l) (o := 2) rfl
      refine W.store tab_ok rfl Upd.here rfl rfl rfl rfl rfl hw2 (W.step tab_ok rfl rfl ?_)
      refine W.ret (fin _ _ (FinOk.first 1 (.tmp rfl .nil) rfl ?_))
      have : f.pin = (⟨f.used, f.dirty, true, f.pins + 1, f.page, f.b⟩, 0) := by unfold Fr.pin; rw [if_neg h1, if_neg h2]
      rw [this]
      exact ⟨rfl, rfl⟩
theorem Unpin_spec (f : Fr) (hf : 0 ≤ f.pins ∧ f.pins ≤ 100) (A B : List Value) (bf off : Nat) (e : TypeId) (hA : A.length = off) :
    Ctr Try.prog 88 [.pointer (some ⟨bf, off, none⟩)] [[(bf, .cells (A ++ f.l ++ B).toArray e (0, 0))]] [] (fun v L' => v = .int .i64 f.unpin.2 ∧ L' = [[(bf, .cells (A ++ f.unpin.1.l ++ B).toArray e (0, 0))]]) := by
  have hp : (A ++ f.l ++ B)[off + 3]? = some (.int .i64 f.pins) := get_mid hA (M := f.l) (o := 3) (by simp [Fr.l])
  refine Ctr.enter (n := 15) [.tmp 2] [(0, _)] Try.func88 rfl rfl rfl (lb rfl) Try.call88 ⟨rfl, trivial⟩ ?_
  intro cx fin fin0
  refine aG ?_
  refine aV (OpVal.load tab_ok rfl (at_own 0 rfl) hp) ?_
  by_cases h1 : f.pins = 0
  · refine aT ?_ (hb := by exact gd h1)
    refine W.ret (fin _ _ (FinOk.first 1 (.tmp rfl .nil) rfl ?_))
    have : f.unpin = (f, 6) := by unfold Fr.unpin; rw [if_pos h1]
    rw [this]
    exact ⟨rfl, rfl⟩
  · refine aF ?_ (hb := by exact gd h1)
    refine aV (OpVal.load tab_ok rfl (at_own 0 rfl) hp) ?_
    refine aV (OpVal.sub rfl rfl (i64_in _ (by omega))) ?_
    have hw1 : splice? (A ++ f.l ++ B) (off + 3) [.int .i64 (f.pins - 1)] = some (A ++ (Fr.mk f.used f.dirty f.ref (f.pins - 1) f.page f.b).l ++ B) := splice_mid hA (M := f.l) (o := 3) rfl
    refine W.store tab_ok rfl Upd.here rfl rfl rfl rfl rfl hw1 (W.step tab_ok rfl rfl ?_)
    refine W.ret (fin _ _ (FinOk.first 1 (.tmp rfl .nil) rfl ?_))
    have : f.unpin = (⟨f.used, f.dirty, f.ref, f.pins - 1, f.page, f.b⟩, 0) := by unfold Fr.unpin; rw [if_neg h1]
    rw [this]
    exact ⟨rfl, rfl⟩
theorem Fr.l_fl (f : Fr) : f.l = (Fl.mk f.used f.dirty f.ref f.pins).l ++ (.int .i64 f.page :: f.b.map (.int .u8)) := rfl
theorem FFree_spec (f : Fr) (A B : List Value) (bf off : Nat) (e : TypeId) (hA : A.length = off) :
    Ctr Try.prog 80 [.pointer (some ⟨bf, off, none⟩)] [] [(bf, .cells (A ++ f.l ++ B).toArray e (0, 0))] (fun v L' => v = .bool (decide (f.pins = 0)) ∧ L' = []) := by
  have := Free_spec ⟨f.used, f.dirty, f.ref, f.pins⟩ A ((.int .i64 f.page :: f.b.map (.int .u8)) ++ B) bf off e hA
  rw [Fr.l_fl]
  simpa using this
theorem Zero_spec (f : Fr) (hf : f.Ok) (A B : List Value) (bf off : Nat) (e : TypeId) (hA : A.length = off) :
    Ctr Try.prog 81 [.pointer (some ⟨bf, off, none⟩)] [[(bf, .cells (A ++ f.l ++ B).toArray e (0, 0))]] [] (fun _ L' => L' = [[(bf, .cells (A ++ Fr.zero.l ++ B).toArray e (0, 0))]]) := by
  refine Ctr.enter (n := 5) [] [(0, _)] Try.func81 rfl rfl rfl (lb rfl) Try.call81 ⟨rfl, trivial⟩ ?_
  intro cx fin fin0
  refine aG ?_
  refine aV (build_zero) ?_
  refine W.store tab_ok rfl Upd.here rfl rfl rfl (Fr.l_len Fr.zero_ok) (Fr.l_one _) (splice_mid (o := 0) hA (store_all Fr.zero_ok (Fr.l_len hf))) (W.step tab_ok rfl rfl ?_)
  refine fin0 _ _ (FinOk.first 1 .nil rfl ?_)
  rfl
theorem page_ro (f : Fr) (hf : f.Ok) (A B : List Value) (bf off : Nat) (e : TypeId) (hA : A.length = off) : RoSl 1 (u8s f.b) (some ⟨bf, off + 5, none⟩) f.b.length [(bf, .cells (A ++ f.l ++ B).toArray e (0, 0))] := by
  have hb : f.b.length = 32 := hf
  refine ⟨by rw [u8s_len, Nat.mul_one], .inr ⟨bf, off + 5, A ++ f.l ++ B, e, (0, 0), rfl, rfl, ?_, ?_⟩⟩
  · have := Fr.l_len hf
    simp only [List.length_append]; omega
  · have h := seg_mid (A := A) (B := B) (o := 5) (m := 32) hA (seg_bytes hf)
    obtain ⟨_, h2⟩ := seg?_eq _ _ _ h
    rw [hb, Nat.mul_one, ← h2, u8s_map]
theorem FGet_spec (f : Fr) (hf : f.Ok) (A B : List Value) (bf o : Nat) (e : TypeId) (hA : A.length = o) (off n : Int) (ho : -9223372036854775808 ≤ off ∧ off ≤ 9223372036854775807) :
    Ctr Try.prog 85 [.pointer (some ⟨bf, o, none⟩), .int .i64 off, .int .i64 n] [[(bf, .cells (A ++ f.l ++ B).toArray e (0, 0))]] []
      (fun v L' => ∃ a len cap H, v = .tuple #[.slice a len cap, .int .i64 (f.get off n).2.2] ∧ L' = [[(bf, .cells (A ++ (f.get off n).1.l ++ B).toArray e (0, 0))], H] ∧ RoSl 1 (u8s (f.get off n).2.1) a len H ∧ (f.get off n).2.1.length = len) := by
  have hFree := FFree_spec f A B bf o e hA
  have hro := page_ro f hf A B bf o e hA
  have hb : f.b.length = 32 := hf
  have hG := CGet_spec f.b (by omega) _ _ 32 (by omega) hro off n ho
  rw [hb, show ((32 : Nat) : Int) = 32 from rfl] at hG
  have hnil : RoSl 1 (u8s []) none 0 [] := ⟨rfl, .inl ⟨rfl, rfl⟩⟩
  refine Ctr.enter (n := 32) [.tmp 6, .tmp 7] [(0, _), (1, _), (2, _)] Try.func85 rfl rfl rfl (lb rfl) Try.call85 ⟨rfl, rfl, rfl, trivial⟩ ?_
  intro cx fin fin0
  refine aG ?_
  refine aC (o := hFree) (h := ?_)
  rintro _ _ ⟨rfl, rfl⟩
  refine aG ?_
  by_cases h0 : f.pins = 0
  · refine aT ?_ (hb := by exact gd h0)
    refine W.nilChunk ?_
    refine W.group [1] rfl rfl ?_
    refine W.ret (fin _ _ (FinOk.first 2 (.tmp rfl (.tmp rfl .nil)) rfl ?_))
    have : f.get off n = (f, [], 6) := by unfold Fr.get; rw [if_pos h0]
    rw [this]
    exact ⟨none, 0, 0, [], rfl, rfl, hnil, rfl⟩
  · refine aF ?_ (hb := by exact gd h0)
    refine aV (OpVal.arSl tab_ok rfl rfl rfl) ?_
    refine aC (o := hG) (h := ?_)
    rintro _ _ (⟨h1, rfl, rfl⟩ | ⟨h1, b, rfl, rfl⟩)
    · refine aG ?_
      refine aT ?_ (hb := by simpa using h1)
      refine W.nilChunk ?_
      refine W.group [1] rfl rfl ?_
      refine W.ret (fin _ _ (FinOk.first 2 (.tmp rfl (.tmp rfl .nil)) rfl ?_))
      have : f.get off n = (f, [], fits 32 off n) := by unfold Fr.get; rw [if_neg h0, if_pos h1]
      rw [this]
      exact ⟨none, 0, 0, [], rfl, rfl, hnil, rfl⟩
    · refine aG ?_
      refine aF ?_ (hb := by rfl)
      have hw : splice? (A ++ f.l ++ B) (o + 2) [.bool true] = some (A ++ (Fr.mk f.used f.dirty true f.pins f.page f.b).l ++ B) := splice_mid hA (M := f.l) (o := 2) rfl
      refine W.store tab_ok rfl (Upd.there Upd.here) rfl rfl rfl rfl rfl hw (W.step tab_ok rfl rfl ?_)
      refine W.group [1] rfl rfl ?_
      refine W.ret (fin _ _ (FinOk.first 2 (.tmp rfl (.tmp rfl .nil)) rfl ?_))
      have : f.get off n = (⟨f.used, f.dirty, true, f.pins, f.page, f.b⟩, (f.b.drop off.toNat).take n.toNat, 0) := by unfold Fr.get; rw [if_neg h0, if_neg (by omega)]
      rw [this]
      have h2 := fits_0 h1
      have hl : ((f.b.drop off.toNat).take n.toNat).length = n.toNat := by simp [hb]; omega
      refine ⟨_, _, _, _, rfl, rfl, ⟨by rw [u8s_len, hl, Nat.mul_one], .inr ⟨b, 0, _, _, _, rfl, rfl, by rw [u8s_len, hl]; omega, ?_⟩⟩, hl⟩
      rw [List.drop_zero]
      exact List.take_of_length_le (by rw [u8s_len, hl]; omega)
theorem FPut_spec (f : Fr) (hf : f.Ok) (A B : List Value) (bf o : Nat) (e : TypeId) (hA : A.length = o) (off : Int) (ho : -9223372036854775808 ≤ off ∧ off ≤ 9223372036854775807)
    (bs : List Int) (ab : Option Addr) (cb : Nat) (rb : HL) (hrb : RoSl 1 (u8s bs) ab bs.length rb) :
    Ctr Try.prog 87 [.pointer (some ⟨bf, o, none⟩), .int .i64 off, .slice ab bs.length cb] [[(bf, .cells (A ++ f.l ++ B).toArray e (0, 0))]] rb
      (fun v L' => v = .int .i64 (f.put off bs).2 ∧ L' = [[(bf, .cells (A ++ (f.put off bs).1.l ++ B).toArray e (0, 0))]]) := by
  have hFree := FFree_spec f A B bf o e hA
  have hro := page_ro f hf A B bf o e hA
  have hb : f.b.length = 32 := hf
  have hP := CPut_spec f.b (by omega) _ _ 32 hro off ho bs ab cb rb hrb
  rw [hb, show ((32 : Nat) : Int) = 32 from rfl] at hP
  have hfl := Fr.l_len hf
  refine Ctr.enter (n := 40) [.tmp 6] [(0, _), (1, _), (2, _)] Try.func87 rfl rfl rfl (lb rfl) Try.call87 ⟨rfl, rfl, rfl, trivial⟩ ?_
  intro cx fin fin0
  refine aG ?_
  refine aC (o := hFree) (h := ?_)
  rintro _ _ ⟨rfl, rfl⟩
  refine aG ?_
  by_cases h0 : f.pins = 0
  · refine aT ?_ (hb := by exact gd h0)
    refine W.ret (fin _ _ (FinOk.first 1 (.tmp rfl .nil) rfl ?_))
    have : f.put off bs = (f, 6) := by unfold Fr.put; rw [if_pos h0]
    rw [this]
    exact ⟨rfl, rfl⟩
  · refine aF ?_ (hb := by exact gd h0)
    refine aV (OpVal.arSl tab_ok rfl rfl rfl) ?_
    refine W.call rfl rfl rfl rfl hP Sel.nil (RoIn.append (RoIn.own 0 rfl) (RoIn.all (fun p hp => hp))) (by decide) ?_
    rintro _ _ (⟨h1, rfl, rfl⟩ | ⟨h1, b, rfl, rfl⟩)
    · refine aG ?_
      refine aT ?_ (hb := by simpa using h1)
      refine W.ret (fin _ _ (FinOk.first 1 (.tmp rfl .nil) rfl ?_))
      have : f.put off bs = (f, fits 32 off bs.length) := by unfold Fr.put; rw [if_neg h0, if_pos h1]
      rw [this]
      exact ⟨rfl, rfl⟩
    · refine aG ?_
      refine aF ?_ (hb := by rfl)
      refine aV (OpVal.arSl tab_ok rfl rfl rfl) ?_
      have hpl : (putb f.b off bs).length = 32 := by rw [putb_len (by rw [hb]; exact h1), hb]
      have hok : (Fr.mk f.used f.dirty f.ref f.pins f.page (putb f.b off bs)).Ok := hpl
      have hu : RoSl 1 (u8s (putb f.b off bs)) (some ⟨b, 0, none⟩) 32 [(b, .cells (u8s (putb f.b off bs)).toArray 5 (0, 0))] := ⟨by rw [u8s_len, hpl], .inr ⟨b, 0, _, _, _, rfl, rfl, by rw [u8s_len, hpl]; decide, by rw [List.drop_zero]; exact List.take_of_length_le (by rw [u8s_len, hpl]; decide)⟩⟩
      refine aPr (copyTo (b := bf) (ex := e) (q := 32) (l := A ++ f.l ++ B) tab_ok rfl rfl rfl rfl hu (fun p hp => by simp at hp; subst hp; exact at_own 0 rfl) (by simp) (u8s_one _) rfl (by simp only [List.length_append]; omega)) ?_
      rintro _ _ ⟨rfl, rfl⟩
      refine aG ?_
      have e1 : (A ++ f.l ++ B).take (o + 5) ++ (u8s (putb f.b off bs)).take (32 * 1) ++ (A ++ f.l ++ B).drop (o + 5 + 32 * 1) = A ++ (Fr.mk f.used f.dirty f.ref f.pins f.page (putb f.b off bs)).l ++ B := by
        have h2 := splice_mid (A := A) (M := f.l) (B := B) (o := 5) (vs := u8s (putb f.b off bs)) (M' := (Fr.mk f.used f.dirty f.ref f.pins f.page (putb f.b off bs)).l) hA (by
          rw [splice?_of _ _ _ (by rw [u8s_len, hpl, hfl]; decide)]
          simp [Fr.l, u8s_map, hb, hpl])
        obtain ⟨_, h3⟩ := splice?_eq _ _ _ h2
        rw [h3, u8s_len, hpl]
        rw [List.take_of_length_le (l := u8s (putb f.b off bs)) (by rw [u8s_len, hpl]; decide)]
      rw [e1]
      have hw1 : splice? (A ++ (Fr.mk f.used f.dirty f.ref f.pins f.page (putb f.b off bs)).l ++ B) (o + 2) [.bool true] = some (A ++ (Fr.mk f.used f.dirty true f.pins f.page (putb f.b off bs)).l ++ B) := splice_mid hA (M := (Fr.mk f.used f.dirty f.ref f.pins f.page (putb f.b off bs)).l) (o := 2) rfl
      refine W.store tab_ok rfl Upd.here rfl rfl rfl rfl rfl hw1 (W.step tab_ok rfl rfl ?_)
      have hw2 : splice? (A ++ (Fr.mk f.used f.dirty true f.pins f.page (putb f.b off bs)).l ++ B) (o + 1) [.bool true] = some (A ++ (Fr.mk f.used true true f.pins f.page (putb f.b off bs)).l ++ B) := splice_mid hA (M := (Fr.mk f.used f.dirty true f.pins f.page (putb f.b off bs)).l) (o := 1) rfl
      refine W.store tab_ok rfl Upd.here rfl rfl rfl rfl rfl hw2 (W.step tab_ok rfl rfl ?_)
      refine W.ret (fin _ _ (FinOk.first 1 (.tmp rfl .nil) rfl ?_))
      have : f.put off bs = (⟨f.used, true, true, f.pins, f.page, putb f.b off bs⟩, 0) := by unfold Fr.put; rw [if_neg h0, if_neg (by omega)]
      rw [this]
      exact ⟨rfl, rfl⟩
end Go.Proofs.Ytgipjpiiomgjjaa
