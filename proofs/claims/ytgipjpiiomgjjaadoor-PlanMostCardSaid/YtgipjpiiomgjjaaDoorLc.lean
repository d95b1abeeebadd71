/-
  Plans: a step's text, of the program and of the document; the layer's example.
-/
import Derived.Test.YtgipjpiiomgjjaaDoorLb
import Derived.Test.YtgipjpiiomgjjaaDoorTx
import Derived.Test.YtgipjpiiomgjjaaDoorShelf
import Derived.Lib.ItoaLen
namespace Go.Proofs.YtgipjpiiomgjjaaDoor
open Go Go.Sl Go.IntWalk
set_option maxHeartbeats 4000000
set_option maxRecDepth 20000
theorem itoa_step (n : Int) (h : ¬ (-10 < n ∧ n < 10)) : Lib.itoa n = Lib.itoa (n.tdiv 10) ++ [UInt8.ofNat (48 + n.natAbs % 10)] := by
  have dd : ∀ u : Nat, ¬ u < 10 → Lib.decDigits u = Lib.decDigits (u / 10) ++ [UInt8.ofNat (48 + u % 10)] := fun u hu => by rw [Lib.decDigits, dif_neg hu]
  by_cases h0 : n < 0
  · obtain ⟨u, rfl⟩ : ∃ u : Nat, n = -(u : Int) := ⟨n.natAbs, by omega⟩
    have e : (-(u : Int)).tdiv 10 = -((u / 10 : Nat) : Int) := by rw [Int.neg_tdiv]; rfl
    rw [e, Lib.itoa_neg u (by omega), Lib.itoa_neg (u / 10) (by omega), dd u (by omega)]
    simp
  · obtain ⟨u, rfl⟩ : ∃ u : Nat, n = (u : Int) := ⟨n.toNat, by omega⟩
    have e : (u : Int).tdiv 10 = ((u / 10 : Nat) : Int) := rfl
    rw [e, Lib.itoa_nonneg, Lib.itoa_nonneg, dd u (by omega)]
    simp
theorem itoa_one (n : Int) (h : -10 < n ∧ n < 10) : Lib.itoa n = (if n < 0 then [45] else []) ++ [UInt8.ofNat (48 + n.natAbs % 10)] := by
  have e : n.natAbs % 10 = n.natAbs := by omega
  rw [e]
  by_cases h0 : n < 0
  · obtain ⟨u, rfl⟩ : ∃ u : Nat, n = -(u : Int) := ⟨n.natAbs, by omega⟩
    rw [Lib.itoa_neg u (by omega), if_pos h0, Lib.decDigits_one (by omega)]
    simp
  · obtain ⟨u, rfl⟩ : ∃ u : Nat, n = (u : Int) := ⟨n.toNat, by omega⟩
    rw [Lib.itoa_nonneg, if_neg h0, Lib.decDigits_one (by omega)]
    simp
theorem Decimal_spec : ∀ (m : Nat) (n : Int), n.natAbs ≤ m → i64s n → Ctr Tryd.prog 22 [.int .i64 n] [] [] (fun v L' => v = S8 (Lib.itoa n) ∧ L' = [])
  | m, n, hm, hn => by
    have hrec : ¬ (-10 < n ∧ n < 10) → Ctr Tryd.prog 22 [.int .i64 (n.tdiv 10)] [] [] (fun v L' => v = S8 (Lib.itoa (n.tdiv 10)) ∧ L' = []) := by
      intro h
      have hq : (n.tdiv 10).natAbs = n.natAbs / 10 := by rw [Int.natAbs_tdiv]; rfl
      have hq2 : i64s (n.tdiv 10) := by unfold i64s at *; omega
      exact Decimal_spec (m - 1) (n.tdiv 10) (by omega) hq2
    have hlen : ¬ (-10 < n ∧ n < 10) → (Lib.itoa (n.tdiv 10)).length ≤ 21 := by
      intro h
      have hq : (n.tdiv 10).natAbs = n.natAbs / 10 := by rw [Int.natAbs_tdiv]; rfl
      have hq2 : i64s (n.tdiv 10) := by unfold i64s at *; omega
      exact Lib.itoa_length_le _ hq2.1 hq2.2
    have hw : IntKind.i64.wrap (n.tdiv 10) = n.tdiv 10 := by
      have hq : (n.tdiv 10).natAbs = n.natAbs / 10 := by rw [Int.natAbs_tdiv]; rfl
      exact wrap_in (by unfold i64s at *; omega)
    have key : ∃ last : Int, n.tmod 10 = last ∧ (if last < 0 then -last else last) = ((n.natAbs % 10 : Nat) : Int) := by
      refine ⟨_, rfl, ?_⟩
      have h1 : (n.tmod 10).natAbs = n.natAbs % 10 := by rw [Int.natAbs_tmod]; rfl
      split <;> omega
    obtain ⟨last, hl1, hl2⟩ := key
    have hd : n.natAbs % 10 < 10 := Nat.mod_lt _ (by decide)
    have hstep := itoa_step n
    have hone := itoa_one n
    generalize n.natAbs % 10 = d at hl2 hd hstep hone
    refine Ctr.enter (n := 32) [.tmp 2] [(0, _)] Tryd.func22 rfl rfl rfl (lb rfl) Tryd.call22 ⟨rfl, trivial⟩ ?_
    intro cx fin fin0
    refine aG ?_
    refine aV (OpVal.rem rfl rfl (by decide) hl1) ?_
    by_cases hlt : last < 0
    case' pos =>
      rw [if_pos hlt] at hl2
      refine aT ?_ (hb := by simp [hlt])
      refine aV (OpVal.neg rfl (r := (d : Int)) (by rw [hl2]; exact wrap_in ⟨by omega, by omega⟩)) ?_
    case' neg =>
      rw [if_neg hlt] at hl2
      subst hl2
      refine aF ?_ (hb := by simp [hlt])
    all_goals
      refine aV (OpVal.add rfl rfl (r := ((48 + d : Nat) : Int)) (by rw [wrap_in ⟨by omega, by omega⟩]; omega)) ?_
      refine aV (OpVal.conv tab_ok rfl rfl rfl (r := ((48 + d : Nat) : Int)) (by rw [IntKind.wrap_u8]; omega)) ?_
      refine aSl (ps := [_]) ?_
      intro bt
      refine aG ?_
      refine aV (OpVal.bytesStr (bs := [((48 + d : Nat) : Int)]) (ro := [(bt, .cells #[.int .u8 ((48 + d : Nat) : Int)] 5 (0, 0))]) tab_ok rfl rfl rfl rfl (Own.roSl (Own.exact (m := 1) (cs := u8s [((48 + d : Nat) : Int)]) bt rfl)) (fun p hp => by simp at hp; subst hp; exact at_own 0 rfl)) ?_
      by_cases h1 : -10 < n
      · by_cases h2 : n < 10
        · repeat (first | refine aL ?_ | refine aS ?_ | (refine aN ?_; intro _; refine aG ?_) | (refine aB ?_; intro _; refine aG ?_) | (refine W.isGuard ?_; first | refine aGo ?_ | refine aSk ?_ | refine aUn ?_ | refine aGo ?_ (hw := by first | (simp [h1, h2]; done) | omega) | refine aSk ?_ (hw := by first | (simp [h1, h2]; done) | omega)) | (refine W.isPick ?_; first | refine aPT ?_ | refine aPF ?_ | refine aPT ?_ (hb := by first | (simp [h1, h2]; done) | omega) | refine aPF ?_ (hb := by first | (simp [h1, h2]; done) | omega)) | (refine W.isBin ?_; first | refine aV (OpVal.neBool tab_ok rfl rfl rfl) ?_ | refine aV (OpVal.eqBool tab_ok rfl rfl rfl) ?_ | refine aV (OpVal.eqNil tab_ok rfl rfl rfl) ?_ | refine aV (OpVal.neNil tab_ok rfl rfl rfl) ?_ | refine aV (OpVal.add rfl rfl (i64_in _ (by omega))) ?_ | refine aV (OpVal.sub rfl rfl (i64_in _ (by omega))) ?_) | (refine W.isCond ?_; first | refine aT ?_ | refine aF ?_ | refine aT ?_ (hb := by first | (simp [h1, h2]; done) | omega) | refine aF ?_ (hb := by first | (simp [h1, h2]; done) | omega)) | fail)
          by_cases h0 : n < 0
          · refine aT ?_ (hb := by simp [h0])
            refine aV (OpVal.addS (a := [45]) (b := [UInt8.ofNat (48 + d)]) rfl rfl (by simp)) ?_
            refine W.ret (fin _ _ (FinOk.mk' ([]) (.tmp rfl .nil) (by repeat (first | exact Sel.nil | (apply Sel.cons; (repeat (first | exact Pick.here | apply Pick.there))))) rfl ?_))
            rw [hone ⟨h1, h2⟩, if_pos h0]
            exact ⟨rfl, rfl⟩
          · refine aF ?_ (hb := by simp [h0])
            refine W.ret (fin _ _ (FinOk.mk' ([]) (.tmp rfl .nil) (by repeat (first | exact Sel.nil | (apply Sel.cons; (repeat (first | exact Pick.here | apply Pick.there))))) rfl ?_))
            rw [hone ⟨h1, h2⟩, if_neg h0]
            exact ⟨rfl, rfl⟩
        · repeat (first | refine aL ?_ | refine aS ?_ | (refine aN ?_; intro _; refine aG ?_) | (refine aB ?_; intro _; refine aG ?_) | (refine W.isGuard ?_; first | refine aGo ?_ | refine aSk ?_ | refine aUn ?_ | refine aGo ?_ (hw := by first | (simp [h1, h2]; done) | omega) | refine aSk ?_ (hw := by first | (simp [h1, h2]; done) | omega)) | (refine W.isPick ?_; first | refine aPT ?_ | refine aPF ?_ | refine aPT ?_ (hb := by first | (simp [h1, h2]; done) | omega) | refine aPF ?_ (hb := by first | (simp [h1, h2]; done) | omega)) | (refine W.isBin ?_; first | refine aV (OpVal.neBool tab_ok rfl rfl rfl) ?_ | refine aV (OpVal.eqBool tab_ok rfl rfl rfl) ?_ | refine aV (OpVal.eqNil tab_ok rfl rfl rfl) ?_ | refine aV (OpVal.neNil tab_ok rfl rfl rfl) ?_ | refine aV (OpVal.add rfl rfl (i64_in _ (by omega))) ?_ | refine aV (OpVal.sub rfl rfl (i64_in _ (by omega))) ?_) | (refine W.isCond ?_; first | refine aT ?_ | refine aF ?_ | refine aT ?_ (hb := by first | (simp [h1, h2]; done) | omega) | refine aF ?_ (hb := by first | (simp [h1, h2]; done) | omega)) | fail)
          have hlen' := hlen (by omega)
          refine aV (OpVal.quo rfl rfl (by decide) hw) ?_
          refine aC (o := (hrec (by omega))) (h := ?_)
          rintro _ _ ⟨rfl, rfl⟩
          refine aG ?_
          refine aV (OpVal.addS (b := [UInt8.ofNat (48 + d)]) rfl rfl (by simp; omega)) ?_
          refine W.ret (fin _ _ (FinOk.mk' ([]) (.tmp rfl .nil) (by repeat (first | exact Sel.nil | (apply Sel.cons; (repeat (first | exact Pick.here | apply Pick.there))))) rfl ?_))
          rw [hstep (by omega)]
          exact ⟨rfl, rfl⟩
      · repeat (first | refine aL ?_ | refine aS ?_ | (refine aN ?_; intro _; refine aG ?_) | (refine aB ?_; intro _; refine aG ?_) | (refine W.isGuard ?_; first | refine aGo ?_ | refine aSk ?_ | refine aUn ?_ | refine aGo ?_ (hw := by first | (simp [h1]; done) | omega) | refine aSk ?_ (hw := by first | (simp [h1]; done) | omega)) | (refine W.isPick ?_; first | refine aPT ?_ | refine aPF ?_ | refine aPT ?_ (hb := by first | (simp [h1]; done) | omega) | refine aPF ?_ (hb := by first | (simp [h1]; done) | omega)) | (refine W.isBin ?_; first | refine aV (OpVal.neBool tab_ok rfl rfl rfl) ?_ | refine aV (OpVal.eqBool tab_ok rfl rfl rfl) ?_ | refine aV (OpVal.eqNil tab_ok rfl rfl rfl) ?_ | refine aV (OpVal.neNil tab_ok rfl rfl rfl) ?_ | refine aV (OpVal.add rfl rfl (i64_in _ (by omega))) ?_ | refine aV (OpVal.sub rfl rfl (i64_in _ (by omega))) ?_) | (refine W.isCond ?_; first | refine aT ?_ | refine aF ?_ | refine aT ?_ (hb := by first | (simp [h1]; done) | omega) | refine aF ?_ (hb := by first | (simp [h1]; done) | omega)) | fail)
        have hlen' := hlen (by omega)
        refine aV (OpVal.quo rfl rfl (by decide) hw) ?_
        refine aC (o := (hrec (by omega))) (h := ?_)
        rintro _ _ ⟨rfl, rfl⟩
        refine aG ?_
        refine aV (OpVal.addS (b := [UInt8.ofNat (48 + d)]) rfl rfl (by simp; omega)) ?_
        refine W.ret (fin _ _ (FinOk.mk' ([]) (.tmp rfl .nil) (by repeat (first | exact Sel.nil | (apply Sel.cons; (repeat (first | exact Pick.here | apply Pick.there))))) rfl ?_))
        rw [hstep (by omega)]
        exact ⟨rfl, rfl⟩
termination_by m n => n.natAbs
decreasing_by omega
def ioTail (x : Io) : List UInt8 := [32] ++ Lib.itoa x.2.1 ++ [32] ++ Lib.itoa x.2.2
def ioText (x : Io) : List UInt8 := if x.1 = 1 then [108, 111, 97, 100] ++ ioTail x else if x.1 = 2 then [115, 116, 111, 114, 101] ++ ioTail x else if x.1 = 3 then [98, 97, 114, 114, 105, 101, 114] else []
def IoOk (x : Io) : Prop := i64s x.1 ∧ i64s x.2.1 ∧ i64s x.2.2
theorem itoa_le {n : Int} (h : i64s n) : (Lib.itoa n).length ≤ 21 := Lib.itoa_length_le _ h.1 h.2
theorem Text_spec (x : Io) (hx : IoOk x) (ro : HL) (h1 : Ctr Tryd.prog 21 [.int .i64 x.2.1] [] ro (fun v L' => v = S8 (Lib.itoa x.2.1) ∧ L' = [])) (h2 : Ctr Tryd.prog 21 [.int .i64 x.2.2] [] ro (fun v L' => v = S8 (Lib.itoa x.2.2) ∧ L' = [])) :
    Ctr Tryd.prog 9 [.agg (io3 x).toArray] [] ro (fun v L' => v = S8 (ioText x) ∧ L' = []) := by
  have l1 := itoa_le hx.2.1
  have l2 := itoa_le hx.2.2
  refine Ctr.enter (n := 25) [.tmp 2] [(0, _)] Tryd.func9 rfl rfl rfl (lb rfl) Tryd.call9 ⟨rfl, trivial⟩ ?_
  intro cx fin fin0
  refine aG ?_
  repeat (first | refine aL ?_ | refine aS ?_ | (refine aN ?_; intro _; refine aG ?_) | (refine aB ?_; intro _; refine aG ?_))
  refine W.draw follows (by decide +kernel) (zG ?_)
  repeat (refine zL ?_)
  refine zC (o := h1) (h := ?_)
  refine zV (OpVal.addS (a := [32]) rfl rfl (by simp; omega)) ?_
  refine zV (OpVal.addS (b := [32]) rfl rfl (by simp; omega)) ?_
  repeat (refine zL ?_)
  refine zC (o := h2) (h := ?_)
  refine zV (OpVal.addS rfl rfl (by simp; omega)) ?_
  refine WZ.nil (aG ?_)
  repeat (first | refine aL ?_ | refine aS ?_ | (refine aN ?_; intro _; refine aG ?_) | (refine aB ?_; intro _; refine aG ?_))
  by_cases k1 : x.1 = 1
  · refine aT ?_ (hb := by simp [k1])
    refine aV (OpVal.addS (a := [108, 111, 97, 100]) rfl rfl (by simp; omega)) ?_
    refine W.ret (fin _ _ (FinOk.mk' ([]) (.tmp rfl .nil) (by repeat (first | exact Sel.nil | (apply Sel.cons; (repeat (first | exact Pick.here | apply Pick.there))))) rfl ?_))
    refine ⟨?_, rfl⟩
    unfold ioText
    rw [if_pos k1]
    rfl
  · refine aF ?_ (hb := by simp [k1])
    by_cases k2 : x.1 = 2
    · refine aT ?_ (hb := by simp [k2])
      refine aV (OpVal.addS (a := [115, 116, 111, 114, 101]) rfl rfl (by simp; omega)) ?_
      refine W.ret (fin _ _ (FinOk.mk' ([]) (.tmp rfl .nil) (by repeat (first | exact Sel.nil | (apply Sel.cons; (repeat (first | exact Pick.here | apply Pick.there))))) rfl ?_))
      refine ⟨?_, rfl⟩
      unfold ioText
      rw [if_neg k1, if_pos k2]
      rfl
    · refine aF ?_ (hb := by simp [k2])
      by_cases k3 : x.1 = 3
      · refine aT ?_ (hb := by simp [k3])
        refine W.ret (fin _ _ (FinOk.mk' ([]) (.tmp rfl .nil) (by repeat (first | exact Sel.nil | (apply Sel.cons; (repeat (first | exact Pick.here | apply Pick.there))))) rfl ?_))
        refine ⟨?_, rfl⟩
        unfold ioText
        rw [if_neg k1, if_neg k2, if_pos k3]
        rfl
      · refine aF ?_ (hb := by simp [k3])
        refine W.ret (fin _ _ (FinOk.mk' ([]) (.tmp rfl .nil) (by repeat (first | exact Sel.nil | (apply Sel.cons; (repeat (first | exact Pick.here | apply Pick.there))))) rfl ?_))
        refine ⟨?_, rfl⟩
        unfold ioText
        rw [if_neg k1, if_neg k2, if_neg k3]
        rfl
theorem RText_spec (x : Io) (hx : IoOk x) : Ctr Tryd.prog 10 [.agg (io3 x).toArray] [] [] (fun v L' => v = S8 (ioText x) ∧ L' = []) := by
  have h1 := Decimal_spec _ x.2.1 (Nat.le_refl _) hx.2.1
  have h2 := Decimal_spec _ x.2.2 (Nat.le_refl _) hx.2.2
  have l1 := itoa_le hx.2.1
  have l2 := itoa_le hx.2.2
  refine Ctr.enter (n := 29) [.tmp 2] [(0, _)] Tryd.func10 rfl rfl rfl (lb rfl) Tryd.call10 ⟨rfl, trivial⟩ ?_
  intro cx fin fin0
  refine aG ?_
  repeat (first | refine aL ?_ | refine aS ?_ | (refine aN ?_; intro _; refine aG ?_) | (refine aB ?_; intro _; refine aG ?_))
  by_cases k3 : x.1 = 3
  · refine aT ?_ (hb := by simp [k3])
    refine W.ret (fin _ _ (FinOk.mk' ([]) (.tmp rfl .nil) (by repeat (first | exact Sel.nil | (apply Sel.cons; (repeat (first | exact Pick.here | apply Pick.there))))) rfl ?_))
    refine ⟨?_, rfl⟩
    unfold ioText
    rw [if_neg (by omega), if_neg (by omega), if_pos k3]
    rfl
  · refine aF ?_ (hb := by simp [k3])
    repeat (first | refine aL ?_ | refine aS ?_ | (refine aN ?_; intro _; refine aG ?_) | (refine aB ?_; intro _; refine aG ?_))
    by_cases k0 : x.1 < 1
    · repeat (first | refine aL ?_ | refine aS ?_ | (refine aN ?_; intro _; refine aG ?_) | (refine aB ?_; intro _; refine aG ?_) | (refine W.isGuard ?_; first | refine aGo ?_ | refine aSk ?_ | refine aUn ?_ | refine aGo ?_ (hw := by first | (simp [k0]; done) | omega) | refine aSk ?_ (hw := by first | (simp [k0]; done) | omega)) | (refine W.isPick ?_; first | refine aPT ?_ | refine aPF ?_ | refine aPT ?_ (hb := by first | (simp [k0]; done) | omega) | refine aPF ?_ (hb := by first | (simp [k0]; done) | omega)) | (refine W.isBin ?_; first | refine aV (OpVal.neBool tab_ok rfl rfl rfl) ?_ | refine aV (OpVal.eqBool tab_ok rfl rfl rfl) ?_ | refine aV (OpVal.eqNil tab_ok rfl rfl rfl) ?_ | refine aV (OpVal.neNil tab_ok rfl rfl rfl) ?_ | refine aV (OpVal.add rfl rfl (i64_in _ (by omega))) ?_ | refine aV (OpVal.sub rfl rfl (i64_in _ (by omega))) ?_) | (refine W.isCond ?_; first | refine aT ?_ | refine aF ?_ | refine aT ?_ (hb := by first | (simp [k0]; done) | omega) | refine aF ?_ (hb := by first | (simp [k0]; done) | omega)) | fail)
      refine W.ret (fin _ _ (FinOk.mk' ([]) (.tmp rfl .nil) (by repeat (first | exact Sel.nil | (apply Sel.cons; (repeat (first | exact Pick.here | apply Pick.there))))) rfl ?_))
      refine ⟨?_, rfl⟩
      unfold ioText
      rw [if_neg (by omega), if_neg (by omega), if_neg (by omega)]
      rfl
    · by_cases k4 : 3 < x.1
      · repeat (first | refine aL ?_ | refine aS ?_ | (refine aN ?_; intro _; refine aG ?_) | (refine aB ?_; intro _; refine aG ?_) | (refine W.isGuard ?_; first | refine aGo ?_ | refine aSk ?_ | refine aUn ?_ | refine aGo ?_ (hw := by first | (simp [k0, k4]; done) | omega) | refine aSk ?_ (hw := by first | (simp [k0, k4]; done) | omega)) | (refine W.isPick ?_; first | refine aPT ?_ | refine aPF ?_ | refine aPT ?_ (hb := by first | (simp [k0, k4]; done) | omega) | refine aPF ?_ (hb := by first | (simp [k0, k4]; done) | omega)) | (refine W.isBin ?_; first | refine aV (OpVal.neBool tab_ok rfl rfl rfl) ?_ | refine aV (OpVal.eqBool tab_ok rfl rfl rfl) ?_ | refine aV (OpVal.eqNil tab_ok rfl rfl rfl) ?_ | refine aV (OpVal.neNil tab_ok rfl rfl rfl) ?_ | refine aV (OpVal.add rfl rfl (i64_in _ (by omega))) ?_ | refine aV (OpVal.sub rfl rfl (i64_in _ (by omega))) ?_) | (refine W.isCond ?_; first | refine aT ?_ | refine aF ?_ | refine aT ?_ (hb := by first | (simp [k0, k4]; done) | omega) | refine aF ?_ (hb := by first | (simp [k0, k4]; done) | omega)) | fail)
        refine W.ret (fin _ _ (FinOk.mk' ([]) (.tmp rfl .nil) (by repeat (first | exact Sel.nil | (apply Sel.cons; (repeat (first | exact Pick.here | apply Pick.there))))) rfl ?_))
        refine ⟨?_, rfl⟩
        unfold ioText
        rw [if_neg (by omega), if_neg (by omega), if_neg (by omega)]
        rfl
      · repeat (first | refine aL ?_ | refine aS ?_ | (refine aN ?_; intro _; refine aG ?_) | (refine aB ?_; intro _; refine aG ?_) | (refine W.isGuard ?_; first | refine aGo ?_ | refine aSk ?_ | refine aUn ?_ | refine aGo ?_ (hw := by first | (simp [k0, k4]; done) | omega) | refine aSk ?_ (hw := by first | (simp [k0, k4]; done) | omega)) | (refine W.isPick ?_; first | refine aPT ?_ | refine aPF ?_ | refine aPT ?_ (hb := by first | (simp [k0, k4]; done) | omega) | refine aPF ?_ (hb := by first | (simp [k0, k4]; done) | omega)) | (refine W.isBin ?_; first | refine aV (OpVal.neBool tab_ok rfl rfl rfl) ?_ | refine aV (OpVal.eqBool tab_ok rfl rfl rfl) ?_ | refine aV (OpVal.eqNil tab_ok rfl rfl rfl) ?_ | refine aV (OpVal.neNil tab_ok rfl rfl rfl) ?_ | refine aV (OpVal.add rfl rfl (i64_in _ (by omega))) ?_ | refine aV (OpVal.sub rfl rfl (i64_in _ (by omega))) ?_) | (refine W.isCond ?_; first | refine aT ?_ | refine aF ?_ | refine aT ?_ (hb := by first | (simp [k0, k4]; done) | omega) | refine aF ?_ (hb := by first | (simp [k0, k4]; done) | omega)) | fail)
        refine W.drawH tab_ok 16 [.b true, .b false, .b false, .b false, .b true, .b false, .b false, .b false, .b false, .b false, .b false, .b false, .b false, .b false, .b false, .b false] [] follows (by decide +kernel) (by decide +kernel) rfl (by decide) rfl ?_
        intro _
        refine dG ?_
        refine dSl (ps := [_, _, _]) ?_
        intro bt
        refine dG ?_
        obtain ⟨k, hk⟩ : ∃ k : Nat, x.1 = (k : Int) := ⟨x.1.toNat, by omega⟩
        have hkk : k = 1 ∨ k = 2 := by omega
        have he : ∃ w : List UInt8, ([S8 [], S8 [108, 111, 97, 100], S8 [115, 116, 111, 114, 101]] : List Value)[k]? = some (S8 w) ∧ ioText x = w ++ ioTail x ∧ w.length ≤ 5 := by
          rcases hkk with rfl | rfl
          · exact ⟨_, rfl, by unfold ioText; rw [if_pos (by omega)], by decide⟩
          · exact ⟨_, rfl, by unfold ioText; rw [if_neg (by omega), if_pos (by omega)], by decide⟩
        obtain ⟨w, hw, ht, hwl⟩ := he
        repeat (first | refine dL ?_ | refine dS ?_ | (refine dN ?_; intro _; refine dG ?_) | (refine dB ?_; intro _; refine dG ?_))
        refine dV (OpVal.ixSl tab_ok rfl rfl rfl rfl (by rw [hk]; rfl) (show k < 3 by omega)) ?_
        refine dVA (OpVal.load tab_ok rfl (at_own 0 rfl) (show _ = some (S8 w) by rw [← hw]; simp; rfl)) ?_
        refine dV (OpVal.addS (b := [32]) rfl rfl (by simp; omega)) ?_
        repeat (first | refine dL ?_ | refine dS ?_ | (refine dN ?_; intro _; refine dG ?_) | (refine dB ?_; intro _; refine dG ?_))
        refine dQ (o := h1) (h := ?_)
        refine dV (OpVal.addS rfl rfl (by simp; omega)) ?_
        refine dV (OpVal.addS (b := [32]) rfl rfl (by simp; omega)) ?_
        repeat (first | refine dL ?_ | refine dS ?_ | (refine dN ?_; intro _; refine dG ?_) | (refine dB ?_; intro _; refine dG ?_))
        refine dQ (o := h2) (h := ?_)
        refine dV (OpVal.addS rfl rfl (by simp; omega)) ?_
        refine WD.nil (W.dropNil (aG ?_))
        refine W.ret (fin _ _ (FinOk.mk' ([]) (.tmp rfl .nil) (by repeat (first | exact Sel.nil | (apply Sel.cons; (repeat (first | exact Pick.here | apply Pick.there))))) rfl ?_))
        refine ⟨?_, rfl⟩
        rw [ht]
        unfold ioTail
        simp only [pack, List.append_assoc]
end Go.Proofs.YtgipjpiiomgjjaaDoor
