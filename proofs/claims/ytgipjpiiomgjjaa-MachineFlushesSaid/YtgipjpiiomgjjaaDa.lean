/-
  The document's frames: Empty, Pin, Unpin, Load, Get, Put; bytes of a page by definition; a frame, as the document has it.
-/
import Derived.Test.YtgipjpiiomgjjaaPk
import Derived.Test.YtgipjpiiomgjjaaPi
-- short
namespace Go.Proofs.Ytgipjpiiomgjjaa
open Go Go.Sl Go.IntWalk
set_option maxHeartbeats 4000000
set_option maxRecDepth 20000
def Fr.dl (f : Fr) : List Value := [.bool f.used, .bool f.dirty, .bool f.ref, .int .i64 f.pins, .int .i64 f.page, .string (bstr f.b)]
def Fr.dv (f : Fr) : Value := .agg f.dl.toArray
theorem own_ro (b : Nat) (bs : List Int) : RoSl 1 (u8s bs) (some ⟨b, 0, none⟩) bs.length [(b, .cells (u8s bs).toArray 5 (0, 0))] :=
  ⟨by rw [u8s_len, Nat.mul_one], .inr ⟨b, 0, _, _, _, rfl, rfl, by rw [u8s_len]; omega, by rw [List.drop_zero]; exact List.take_of_length_le (by rw [u8s_len]; omega)⟩⟩
theorem REmpty_spec : Ctr Try.prog 42 [] [] [] (fun v L' => v = Fr.zero.dv ∧ L' = []) := by
  refine Ctr.enter (n := 4) [.cell 0 43] [] Try.func42 rfl rfl rfl (lb rfl) Try.call42 trivial ?_
  intro cx fin fin0
  refine aG ?_
  repeat (first | refine gw ?_ | refine gN fun _ => ?_ | refine gB fun _ => ?_ | fail)
  refine aW (NewOf.mks (bytes := 1) (len := 32) (cap := 32) tab_ok rfl rfl rfl rfl rfl rfl rfl rfl rfl (Nat.le_refl _) (by decide) (by decide)) ?_
  intro _
  refine aG ?_
  rw [rep_zeros]
  refine aV (OpVal.bytesStr (bs := zeros) tab_ok rfl rfl rfl rfl (own_ro _ zeros) (fun p hp => by simp at hp; subst hp; exact at_own 0 rfl)) ?_
  refine aBu (ps := [_]) ?_
  repeat (first | refine gw ?_ | refine gN fun _ => ?_ | refine gB fun _ => ?_ | fail)
  refine W.ret (fin _ _ (FinOk.mk' ([]) (aRc .nil) (by repeat (first | exact Sel.nil | (apply Sel.cons; (repeat (first | exact Pick.here | apply Pick.there))))) rfl ?_))
  exact ⟨rfl, rfl⟩
theorem RGet8_spec (pg : List Int) (hpg : pg.length = 32) (a : Option Addr) (cap : Nat) (ro : HL) (hro : RoSl 1 (u8s pg) a pg.length ro) (off n : Int) (ho : i64s off) (hn : i64s n) :
    Ctr Try.prog 94 [.slice a pg.length cap, .int .i64 off, .int .i64 n] [] ro (fun v L' =>
      (fits 32 off n ≠ 0 ∧ v = .tuple #[.slice none 0 0, .int .i64 (fits 32 off n)] ∧ L' = []) ∨
      (fits 32 off n = 0 ∧ ∃ a' cap' H, v = .tuple #[.slice a' n.toNat cap', .int .i64 0] ∧ L' = [H] ∧ Own 1 5 (u8s ((pg.drop off.toNat).take n.toNat)) a' n.toNat cap' H)) := by
  have h32 : ((pg.length : Nat) : Int) = 32 := by omega
  by_cases h0 : fits 32 off n = 0
  · obtain ⟨_, h2, h3, h4⟩ := fits_0 h0
    obtain ⟨o, rfl⟩ : ∃ o : Nat, off = (o : Int) := ⟨off.toNat, by omega⟩
    obtain ⟨m, rfl⟩ : ∃ m : Nat, n = (m : Int) := ⟨n.toNat, by omega⟩
    have c1 : ¬ ((o : Int) < 0) := by omega
    have c2 : ¬ ((m : Int) < 0) := by omega
    have c3 : ¬ ((32 : Int) < (o : Int)) := by omega
    have c4 : ¬ ((32 : Int) < (m : Int)) := by omega
    have c5 : ¬ ((32 : Int) < (o : Int) + (m : Int)) := by omega
    refine Ctr.enter (n := 49) [.tmp 6, .tmp 7] [(0, _), (1, _), (2, _)] Try.func94 rfl rfl rfl (lb rfl) Try.call94 ⟨rfl, rfl, rfl, trivial⟩ ?_
    intro cx fin fin0
    refine aG ?_
    rw [h32]
    repeat (first | refine gh (gc5 c1 c2 c3 c4 c5) ?_ | refine gN fun _ => ?_ | refine gB fun _ => ?_ | fail)
    refine W.nilChunk ?_
    refine aLp (fun q ρ1 L1 => ∃ (j : Nat) (aa : Option Addr) (cc : Nat) (H : HL), j ≤ m ∧ Own 1 5 (u8s ((pg.drop o).take j)) aa j cc H ∧ q = m - j ∧ ρ1 = [(9, .int .i64 ((o + j : Nat) : Int)), (8, .slice aa j cc), (0, .slice a pg.length cap), (1, .int .i64 (o : Int)), (2, .int .i64 (m : Int))] ∧ L1 = [H]) (o := ⟨0, none, 0, [], Nat.zero_le _, Own.nil _ _, rfl, rfl, rfl⟩) (h := ?_)
    rintro q ρ1 L1 ⟨j, aa, cc, H, hj, hown, rfl, rfl, rfl⟩
    refine aG ?_
    refine aV (OpVal.add rfl rfl (i64_in _ (by omega))) ?_
    by_cases hlt : j < m
    · refine aT ?_ (hb := by simp; omega)
      have hi : o + j < pg.length := by omega
      obtain ⟨bx, ox, lx, ex, frx, rfl, rfl, _, hld⟩ := RoSl.at (f := fun x => [Value.int .u8 x]) (fun _ => rfl) hro hi
      have hld := hld 0 (by decide)
      have hnx : (pg.drop o).take (j + 1) = (pg.drop o).take j ++ [pg[o + j]] := by
        rw [List.take_add_one, List.getElem?_drop, List.getElem?_eq_getElem hi]; rfl
      generalize pg[o + j] = x at hld hnx
      refine aV (OpVal.ixSl tab_ok rfl rfl rfl rfl rfl hi) ?_
      refine aV (OpVal.load tab_ok rfl (at_ro 0 rfl) hld) ?_
      refine aSl (ps := [_]) ?_
      intro bt
      refine aG ?_
      refine aAp (hown) ?_
      rintro _ _ ⟨_, _, _, rfl, rfl, ho⟩
      refine aG ?_
      rw [show u8s ((pg.drop o).take j) ++ [.int .u8 x] = u8s ((pg.drop o).take (j + 1)) from by rw [hnx, u8s_append]; rfl] at ho
      refine aV (OpVal.add rfl rfl (i64_in _ (by omega))) ?_
      refine aR (o := ⟨m - (j + 1), by omega, j + 1, _, _, _, by omega, ho, rfl, rfl, rfl⟩)
    · refine aF ?_ (hb := by simp; omega)
      have hjm : j = m := by omega
      subst hjm
      refine W.ret (fin _ _ (FinOk.first 1 (.tmp rfl (.tmp rfl .nil)) rfl ?_))
      exact .inr ⟨h0, aa, cc, H, rfl, rfl, hown⟩
  · have h4 : fits 32 off n = 4 := by unfold fits at h0 ⊢; rw [if_pos rfl] at h0 ⊢; split <;> simp_all
    refine Ctr.enter (n := 49) [.tmp 6, .tmp 7] [(0, _), (1, _), (2, _)] Try.func94 rfl rfl rfl (lb rfl) Try.call94 ⟨rfl, rfl, rfl, trivial⟩ ?_
    intro cx fin fin0
    refine aG ?_
    rw [h32]
    by_cases c1 : off < 0
    · repeat (first | refine gh c1 ?_ | refine gN fun _ => ?_ | refine gB fun _ => ?_ | fail)
      refine W.ret (fin _ _ (FinOk.mk' ([]) (.tmp rfl (.tmp rfl .nil)) (by repeat (first | exact Sel.nil | (apply Sel.cons; (repeat (first | exact Pick.here | apply Pick.there))))) rfl ?_))
      exact .inl ⟨h0, by rw [h4]; rfl, rfl⟩
    by_cases c2 : n < 0
    · repeat (first | refine gh (gc2 c1 c2) ?_ | refine gN fun _ => ?_ | refine gB fun _ => ?_ | fail)
      refine W.ret (fin _ _ (FinOk.mk' ([]) (.tmp rfl (.tmp rfl .nil)) (by repeat (first | exact Sel.nil | (apply Sel.cons; (repeat (first | exact Pick.here | apply Pick.there))))) rfl ?_))
      exact .inl ⟨h0, by rw [h4]; rfl, rfl⟩
    by_cases c3 : 32 < off
    · repeat (first | refine gh (gc3 c1 c2 c3) ?_ | refine gN fun _ => ?_ | refine gB fun _ => ?_ | fail)
      refine W.ret (fin _ _ (FinOk.mk' ([]) (.tmp rfl (.tmp rfl .nil)) (by repeat (first | exact Sel.nil | (apply Sel.cons; (repeat (first | exact Pick.here | apply Pick.there))))) rfl ?_))
      exact .inl ⟨h0, by rw [h4]; rfl, rfl⟩
    by_cases c4 : 32 < n
    · repeat (first | refine gh (gc4 c1 c2 c3 c4) ?_ | refine gN fun _ => ?_ | refine gB fun _ => ?_ | fail)
      refine W.ret (fin _ _ (FinOk.mk' ([]) (.tmp rfl (.tmp rfl .nil)) (by repeat (first | exact Sel.nil | (apply Sel.cons; (repeat (first | exact Pick.here | apply Pick.there))))) rfl ?_))
      exact .inl ⟨h0, by rw [h4]; rfl, rfl⟩
    have c5 : 32 < off + n := by
      unfold fits at h0
      rw [if_pos rfl] at h0
      split at h0
      · omega
      · exact absurd rfl h0
    repeat (first | refine gh (gc5 c1 c2 c3 c4 c5) ?_ | refine gN fun _ => ?_ | refine gB fun _ => ?_ | fail)
    refine W.ret (fin _ _ (FinOk.mk' ([]) (.tmp rfl (.tmp rfl .nil)) (by repeat (first | exact Sel.nil | (apply Sel.cons; (repeat (first | exact Pick.here | apply Pick.there))))) rfl ?_))
    exact .inl ⟨h0, by rw [h4]; rfl, rfl⟩
theorem putb_get? {pg bs : List Int} {o : Nat} (h1 : o + bs.length ≤ pg.length) (j : Nat) : (putb pg o bs)[j]? = if o ≤ j ∧ j < o + bs.length then bs[j - o]? else pg[j]? := by
  unfold putb
  rw [Int.toNat_natCast, List.append_assoc]
  by_cases h : j < o
  · rw [if_neg (by omega), List.getElem?_append_left (by simp; omega), List.getElem?_take, if_pos h]
  · have e : (pg.take o).length = o := by simp; omega
    rw [List.getElem?_append_right (by omega), e]
    by_cases h2 : j < o + bs.length
    · rw [if_pos (by omega), List.getElem?_append_left (by omega)]
    · rw [if_neg (by omega), List.getElem?_append_right (by omega), List.getElem?_drop]
      congr 1; omega
theorem RPut8_spec (pg : List Int) (hpg : pg.length = 32) (a : Option Addr) (cap : Nat) (ro : HL) (hro : RoSl 1 (u8s pg) a pg.length ro) (off : Int) (ho : i64s off) (bs : List Int) (ab : Option Addr) (cb : Nat) (hcb : bs.length ≤ 1000000) (rb : HL) (hrb : RoSl 1 (u8s bs) ab bs.length rb) :
    Ctr Try.prog 95 [.slice a pg.length cap, .int .i64 off, .slice ab bs.length cb] [] (ro ++ rb) (fun v L' =>
      (fits 32 off bs.length ≠ 0 ∧ v = .tuple #[.slice none 0 0, .int .i64 (fits 32 off bs.length)] ∧ L' = []) ∨
      (fits 32 off bs.length = 0 ∧ ∃ a' cap' H, v = .tuple #[.slice a' 32 cap', .int .i64 0] ∧ L' = [H] ∧ Own 1 5 (u8s (putb pg off bs)) a' 32 cap' H)) := by
  have hG := RGet8_spec pg hpg a cap ro hro off bs.length ho ⟨by omega, by omega⟩
  refine Ctr.enter (n := 55) [.tmp 6, .tmp 7] [(0, _), (1, _), (2, _)] Try.func95 rfl rfl rfl (lb rfl) Try.call95 ⟨rfl, rfl, rfl, trivial⟩ ?_
  intro cx fin fin0
  refine aG ?_
  refine aC (o := hG) (h := ?_) (hro := RoIn.all (fun p hp => by simp [hp]))
  rintro _ _ (⟨h0, rfl, rfl⟩ | ⟨h0, a', cap', H0, rfl, rfl, _⟩)
  · refine aG ?_
    refine aT ?_ (hb := by simpa using h0)
    refine W.ret (fin _ _ (FinOk.mk' ([]) (.tmp rfl (.tmp rfl .nil)) (by repeat (first | exact Sel.nil | (apply Sel.cons; (repeat (first | exact Pick.here | apply Pick.there))))) rfl ?_))
    exact .inl ⟨h0, rfl, rfl⟩
  · obtain ⟨_, h2, h3, h4⟩ := fits_0 h0
    obtain ⟨o, rfl⟩ : ∃ o : Nat, off = (o : Int) := ⟨off.toNat, by omega⟩
    have hpl : (putb pg (o : Int) bs).length = 32 := by rw [putb_len (by rw [hpg]; exact h0), hpg]
    refine aG ?_
    refine aF ?_ (hb := by rfl)
    refine W.nilChunk ?_
    refine aLp (fun q ρ1 L1 => ∃ (j : Nat) (aa : Option Addr) (cc : Nat) (H : HL), j ≤ 32 ∧ Own 1 5 (u8s ((putb pg (o : Int) bs).take j)) aa j cc H ∧ q = 32 - j ∧ ρ1 = [(11, .int .i64 (j : Int)), (10, .slice aa j cc), (0, .slice a pg.length cap), (1, .int .i64 (o : Int)), (2, .slice ab bs.length cb)] ∧ L1 = [H]) (o := ⟨0, none, 0, [], Nat.zero_le _, Own.nil _ _, rfl, rfl, rfl⟩) (h := ?_)
    rintro q ρ1 L1 ⟨j, aa, cc, H, hj, hown, rfl, rfl, rfl⟩
    refine aG ?_
    by_cases hlt : j < 32
    · refine aT ?_ (hb := by simp; omega)
      have hnx : ∀ x, (putb pg (o : Int) bs)[j]? = some x → (putb pg (o : Int) bs).take (j + 1) = (putb pg (o : Int) bs).take j ++ [x] := by
        intro x hx
        rw [List.take_add_one, hx]; rfl
      have hpb := putb_get? (pg := pg) (bs := bs) (o := o) (by omega) j
      by_cases hin : o ≤ j ∧ j < o + bs.length
      · have c1 : (o : Int) ≤ (j : Int) := by omega
        have c2 : (j : Int) < (o : Int) + (bs.length : Int) := by omega
        have hi : j - o < bs.length := by omega
        rw [if_pos hin, List.getElem?_eq_getElem hi] at hpb
        have hnx := hnx _ hpb
        obtain ⟨bx, ox, lx, ex, frx, rfl, rfl, _, hld⟩ := RoSl.at (f := fun x => [Value.int .u8 x]) (fun _ => rfl) hrb hi
        have hld := hld 0 (by decide)
        generalize bs[j - o] = x at hld hnx
        repeat (first | refine gh (gc2 c1 c2) ?_ | refine gN fun _ => ?_ | refine gB fun _ => ?_ | fail)
        refine aV (OpVal.ixI (j := j - o) tab_ok rfl rfl rfl rfl (by omega) hi) ?_
        refine aV (OpVal.load tab_ok rfl (show At _ _ bx (.cells lx.toArray ex frx) from .inr (by simp)) hld) ?_
        refine aSl (ps := [_]) ?_
        intro bt
        refine aG ?_
        refine aAp (hown) ?_
        rintro _ _ ⟨_, _, _, rfl, rfl, ho⟩
        refine aG ?_
        rw [show u8s ((putb pg (o : Int) bs).take j) ++ [.int .u8 x] = u8s ((putb pg (o : Int) bs).take (j + 1)) from by rw [hnx, u8s_append]; rfl] at ho
        refine aV (OpVal.add rfl rfl (i64_in _ (by omega))) ?_
        refine aR (o := ⟨32 - (j + 1), by omega, j + 1, _, _, _, by omega, ho, rfl, rfl, rfl⟩)
      · have hi : j < pg.length := by omega
        rw [if_neg hin, List.getElem?_eq_getElem hi] at hpb
        have hnx := hnx _ hpb
        obtain ⟨bx, ox, lx, ex, frx, rfl, rfl, _, hld⟩ := RoSl.at (f := fun x => [Value.int .u8 x]) (fun _ => rfl) hro hi
        have hld := hld 0 (by decide)
        generalize pg[j] = x at hld hnx
        rcases (show ¬ ((o : Int) ≤ (j : Int)) ∨ ((o : Int) ≤ (j : Int) ∧ ¬ ((j : Int) < (o : Int) + (bs.length : Int))) by omega) with hx | hx
        all_goals
          repeat (first | refine gh hx ?_ | refine gN fun _ => ?_ | refine gB fun _ => ?_ | fail)
          refine aV (OpVal.ixSl tab_ok rfl rfl rfl rfl rfl hi) ?_
          refine aV (OpVal.load tab_ok rfl (show At _ _ bx (.cells lx.toArray ex frx) from .inr (by simp)) hld) ?_
          refine aSl (ps := [_]) ?_
          intro bt
          refine aG ?_
          refine aAp (hown) ?_
          rintro _ _ ⟨_, _, _, rfl, rfl, ho⟩
          refine aG ?_
          rw [show u8s ((putb pg (o : Int) bs).take j) ++ [.int .u8 x] = u8s ((putb pg (o : Int) bs).take (j + 1)) from by rw [hnx, u8s_append]; rfl] at ho
          refine aV (OpVal.add rfl rfl (i64_in _ (by omega))) ?_
          refine aR (o := ⟨32 - (j + 1), by omega, j + 1, _, _, _, by omega, ho, rfl, rfl, rfl⟩)
    · refine aF ?_ (hb := by simp; omega)
      have hj32 : j = 32 := by omega
      subst hj32
      rw [List.take_of_length_le (by rw [hpl]; exact Nat.le_refl _)] at hown
      refine W.ret (fin _ _ (FinOk.first 1 (.tmp rfl (.tmp rfl .nil)) rfl ?_))
      exact .inr ⟨h0, aa, cc, H, rfl, rfl, hown⟩
theorem RPin_spec (f : Fr) (hf : f.Good) : Ctr Try.prog 74 [f.dv] [] [] (fun v L' => v = .tuple #[f.pin.1.dv, .int .i64 f.pin.2] ∧ L' = []) := by
  have h0 := hf.2.1
  unfold Fr.pin
  refine Ctr.enter (n := 18) [.cell 2 43, .tmp 3] [(0, _)] Try.func74 rfl rfl rfl (lb rfl) Try.call74 ⟨rfl, trivial⟩ ?_
  intro cx fin fin0
  refine aG ?_
  repeat (first | refine gw ?_ | refine gN fun _ => ?_ | refine gB fun _ => ?_ | fail)
  by_cases h1 : f.used = false
  · repeat (first | refine gh h1 ?_ | refine gN fun _ => ?_ | refine gB fun _ => ?_ | fail)
    refine W.ret (fin _ _ (FinOk.mk' ([]) (aRc (.tmp rfl .nil)) (by repeat (first | exact Sel.nil | (apply Sel.cons; (repeat (first | exact Pick.here | apply Pick.there))))) rfl ?_))
    rw [if_pos h1]; exact ⟨rfl, rfl⟩
  · have h1' : f.used = true := by simpa using h1
    repeat (first | refine gh h1' ?_ | refine gN fun _ => ?_ | refine gB fun _ => ?_ | fail)
    by_cases h2 : 100 ≤ f.pins
    · repeat (first | refine gh h2 ?_ | refine gN fun _ => ?_ | refine gB fun _ => ?_ | fail)
      refine W.ret (fin _ _ (FinOk.mk' ([]) (aRc (.tmp rfl .nil)) (by repeat (first | exact Sel.nil | (apply Sel.cons; (repeat (first | exact Pick.here | apply Pick.there))))) rfl ?_))
      rw [if_neg h1, if_pos h2]; exact ⟨rfl, rfl⟩
    · repeat (first | refine gh h2 ?_ | refine gN fun _ => ?_ | refine gB fun _ => ?_ | fail)
      refine W.ret (fin _ _ (FinOk.mk' ([]) (aRc (.tmp rfl .nil)) (by repeat (first | exact Sel.nil | (apply Sel.cons; (repeat (first | exact Pick.here | apply Pick.there))))) rfl ?_))
      rw [if_neg h1, if_neg h2]; exact ⟨rfl, rfl⟩
theorem RUnpin_spec (f : Fr) (hf : f.Good) : Ctr Try.prog 75 [f.dv] [] [] (fun v L' => v = .tuple #[f.unpin.1.dv, .int .i64 f.unpin.2] ∧ L' = []) := by
  have h0 := hf.2.1
  have h3 := hf.2.2.1
  unfold Fr.unpin
  refine Ctr.enter (n := 13) [.cell 2 43, .tmp 3] [(0, _)] Try.func75 rfl rfl rfl (lb rfl) Try.call75 ⟨rfl, trivial⟩ ?_
  intro cx fin fin0
  refine aG ?_
  repeat (first | refine gw ?_ | refine gN fun _ => ?_ | refine gB fun _ => ?_ | fail)
  by_cases h1 : f.pins = 0
  · repeat (first | refine gh h1 ?_ | refine gN fun _ => ?_ | refine gB fun _ => ?_ | fail)
    refine W.ret (fin _ _ (FinOk.mk' ([]) (aRc (.tmp rfl .nil)) (by repeat (first | exact Sel.nil | (apply Sel.cons; (repeat (first | exact Pick.here | apply Pick.there))))) rfl ?_))
    rw [if_pos h1]; exact ⟨rfl, rfl⟩
  · repeat (first | refine gh h1 ?_ | refine gN fun _ => ?_ | refine gB fun _ => ?_ | fail)
    refine W.ret (fin _ _ (FinOk.mk' ([]) (aRc (.tmp rfl .nil)) (by repeat (first | exact Sel.nil | (apply Sel.cons; (repeat (first | exact Pick.here | apply Pick.there))))) rfl ?_))
    rw [if_neg h1]; exact ⟨rfl, rfl⟩
theorem RLoad_spec (f : Fr) (page : Int) (bs : List Int) (ab : Option Addr) (cb : Nat) (rb : HL) (hrb : RoSl 1 (u8s bs) ab bs.length rb) :
    Ctr Try.prog 79 [f.dv, .int .i64 page, .slice ab bs.length cb] [] rb (fun v L' => v = (if bs.length = 32 then .tuple #[(Fr.load page bs).dv, .int .i64 0] else .tuple #[f.dv, .int .i64 2]) ∧ L' = []) := by
  refine Ctr.enter (n := 16) [.cell 6 43, .tmp 7] [(0, _), (1, _), (2, _)] Try.func79 rfl rfl rfl (lb rfl) Try.call79 ⟨rfl, rfl, rfl, trivial⟩ ?_
  intro cx fin fin0
  refine aG ?_
  repeat (first | refine gw ?_ | refine gN fun _ => ?_ | refine gB fun _ => ?_ | fail)
  by_cases h : bs.length = 32
  · refine aF ?_ (hb := by exact gd h)
    refine aV (OpVal.bytesStr tab_ok rfl rfl rfl rfl hrb (fun p hp => .inr hp)) ?_
    refine aBu (ps := [_, _, _]) ?_
    repeat (first | refine gw ?_ | refine gN fun _ => ?_ | refine gB fun _ => ?_ | fail)
    refine W.ret (fin _ _ (FinOk.mk' ([]) (aRc (.tmp rfl .nil)) (by repeat (first | exact Sel.nil | (apply Sel.cons; (repeat (first | exact Pick.here | apply Pick.there))))) rfl ?_))
    rw [if_pos h]; exact ⟨rfl, rfl⟩
  · refine aT ?_ (hb := by simp; omega)
    repeat (first | refine gw ?_ | refine gN fun _ => ?_ | refine gB fun _ => ?_ | fail)
    refine W.ret (fin _ _ (FinOk.mk' ([]) (aRc (.tmp rfl .nil)) (by repeat (first | exact Sel.nil | (apply Sel.cons; (repeat (first | exact Pick.here | apply Pick.there))))) rfl ?_))
    rw [if_neg h]; exact ⟨rfl, rfl⟩
theorem RGet_spec (f : Fr) (hf : f.Good) (off n : Int) (ho : i64s off) (hn : i64s n) :
    Ctr Try.prog 76 [f.dv, .int .i64 off, .int .i64 n] [] [] (fun v L' => ∃ a len cap H, v = .tuple #[(f.get off n).1.dv, .slice a len cap, .int .i64 (f.get off n).2.2] ∧ L' = [H] ∧ RoSl 1 (u8s (f.get off n).2.1) a len H ∧ (f.get off n).2.1.length = len) := by
  have hb : f.b.length = 32 := hf.1
  have hnil : RoSl 1 (u8s []) none 0 [] := ⟨rfl, .inl ⟨rfl, rfl⟩⟩
  unfold Fr.get
  refine Ctr.enter (n := 31) [.cell 6 43, .tmp 7, .tmp 8] [(0, _), (1, _), (2, _)] Try.func76 rfl rfl rfl (lb rfl) Try.call76 ⟨rfl, rfl, rfl, trivial⟩ ?_
  intro cx fin fin0
  refine aG ?_
  repeat (first | refine gw ?_ | refine gN fun _ => ?_ | refine gB fun _ => ?_ | fail)
  by_cases h1 : f.pins = 0
  · repeat (first | refine gh h1 ?_ | refine gN fun _ => ?_ | refine gB fun _ => ?_ | fail)
    refine W.nilChunk ?_
    refine W.ret (fin _ _ (FinOk.first 1 (aRc (.tmp rfl (.tmp rfl .nil))) rfl ?_))
    rw [if_pos h1]
    exact ⟨none, 0, 0, [], rfl, rfl, hnil, rfl⟩
  · repeat (first | refine gh h1 ?_ | refine gN fun _ => ?_ | refine gB fun _ => ?_ | fail)
    refine aPr (strBytes (bs := f.b) tab_ok rfl rfl rfl rfl hf.2.2.2) ?_
    rintro _ _ ⟨as_, cs_, Hs, rfl, rfl, hs, _⟩
    refine aG ?_
    refine aC (o := RGet8_spec f.b hb as_ cs_ Hs hs off n ho hn) (h := ?_)
    rintro _ _ (⟨h0, rfl, rfl⟩ | ⟨h0, a', cap', H0, rfl, rfl, hown⟩)
    · refine aG ?_
      refine aT ?_ (hb := by simpa using h0)
      repeat (first | refine gw ?_ | refine gN fun _ => ?_ | refine gB fun _ => ?_ | fail)
      refine W.nilChunk ?_
      refine W.ret (fin _ _ (FinOk.first 1 (aRc (.tmp rfl (.tmp rfl .nil))) rfl ?_))
      rw [if_neg h1, if_pos h0]
      exact ⟨none, 0, 0, [], rfl, rfl, hnil, rfl⟩
    · have h4 := fits_0 h0
      refine aG ?_
      refine aF ?_ (hb := by rfl)
      repeat (first | refine gx ?_ | refine gN fun _ => ?_ | refine gB fun _ => ?_ | fail)
      refine W.ret (fin _ _ (FinOk.first 1 (aRc (.tmp rfl (.tmp rfl .nil))) rfl ?_))
      rw [if_neg h1, if_neg (by omega)]
      have hl : ((f.b.drop off.toNat).take n.toNat).length = n.toNat := by simp [hb]; omega
      exact ⟨a', _, cap', H0, rfl, rfl, Own.roSl hown, hl⟩
theorem RPut_spec (f : Fr) (hf : f.Good) (off : Int) (ho : i64s off) (bs : List Int) (ab : Option Addr) (cb : Nat) (hcb : bs.length ≤ 1000000) (rb : HL) (hrb : RoSl 1 (u8s bs) ab bs.length rb) :
    Ctr Try.prog 77 [f.dv, .int .i64 off, .slice ab bs.length cb] [] rb (fun v L' => v = .tuple #[(f.put off bs).1.dv, .int .i64 (f.put off bs).2] ∧ L' = []) := by
  have hb : f.b.length = 32 := hf.1
  unfold Fr.put
  refine Ctr.enter (n := 33) [.cell 6 43, .tmp 7] [(0, _), (1, _), (2, _)] Try.func77 rfl rfl rfl (lb rfl) Try.call77 ⟨rfl, rfl, rfl, trivial⟩ ?_
  intro cx fin fin0
  refine aG ?_
  repeat (first | refine gw ?_ | refine gN fun _ => ?_ | refine gB fun _ => ?_ | fail)
  by_cases h1 : f.pins = 0
  · repeat (first | refine gh h1 ?_ | refine gN fun _ => ?_ | refine gB fun _ => ?_ | fail)
    refine W.ret (fin _ _ (FinOk.mk' ([]) (aRc (.tmp rfl .nil)) (by repeat (first | exact Sel.nil | (apply Sel.cons; (repeat (first | exact Pick.here | apply Pick.there))))) rfl ?_))
    rw [if_pos h1]
    exact ⟨rfl, rfl⟩
  · repeat (first | refine gh h1 ?_ | refine gN fun _ => ?_ | refine gB fun _ => ?_ | fail)
    refine aPr (strBytes (bs := f.b) tab_ok rfl rfl rfl rfl hf.2.2.2) ?_
    rintro _ _ ⟨as_, cs_, Hs, rfl, rfl, hs, _⟩
    refine aG ?_
    refine aC (o := RPut8_spec f.b hb as_ cs_ Hs hs off ho bs ab cb hcb rb hrb) (h := ?_) (hro := by exact RoIn.append (RoIn.own 0 rfl) (RoIn.all fun p hp => hp))
    rintro _ _ (⟨h0, rfl, rfl⟩ | ⟨h0, a', cap', H0, rfl, rfl, hown⟩)
    · refine aG ?_
      refine aT ?_ (hb := by simpa using h0)
      repeat (first | refine gw ?_ | refine gN fun _ => ?_ | refine gB fun _ => ?_ | fail)
      refine W.ret (fin _ _ (FinOk.mk' ([]) (aRc (.tmp rfl .nil)) (by repeat (first | exact Sel.nil | (apply Sel.cons; (repeat (first | exact Pick.here | apply Pick.there))))) rfl ?_))
      rw [if_neg h1, if_pos h0]
      exact ⟨rfl, rfl⟩
    · have hr := Own.roSl hown
      have hpl : (putb f.b off bs).length = 32 := by rw [putb_len (by rw [hb]; exact h0), hb]
      refine aG ?_
      refine aF ?_ (hb := by rfl)
      refine aV (OpVal.bytesStr tab_ok rfl rfl rfl rfl hr (fun q hq => .inl (by simp [hq]))) ?_
      repeat (first | refine gx ?_ | refine gN fun _ => ?_ | refine gB fun _ => ?_ | fail)
      refine W.ret (fin _ _ (FinOk.mk' ([]) (aRc (.tmp rfl .nil)) (by repeat (first | exact Sel.nil | (apply Sel.cons; (repeat (first | exact Pick.here | apply Pick.there))))) rfl ?_))
      rw [if_neg h1, if_neg (by omega)]
      exact ⟨rfl, rfl⟩
end Go.Proofs.Ytgipjpiiomgjjaa
