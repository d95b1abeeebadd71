/-
  The clock's turn.
-/
import Derived.Test.YtgipjpiiomgjjaaPc
namespace Go.Proofs.Ytgipjpiiomgjjaa
open Go Go.Sl Go.IntWalk
set_option maxHeartbeats 2000000
set_option maxRecDepth 20000
theorem flags_one (fs : List Fl) : allOne (flagsOf fs) = true := by
  induction fs with
  | nil => rfl
  | cons f fs ih => exact ih
theorem Clone_spec (fs : List Fl) (h1 : 1 ≤ fs.length) (h2 : fs.length ≤ 64) (a : Option Addr) (cap : Nat) (ro : HL) (hro : RoSl 4 (flagsOf fs) a fs.length ro) :
    Ctr Try.prog 105 [.slice a fs.length cap] [] ro (fun v L' => ∃ a' cap' H, v = .slice a' fs.length cap' ∧ L' = [H] ∧ Own 4 55 (flagsOf fs) a' fs.length cap' H) := by
  rcases hro.2 with ⟨h0, _⟩ | ⟨bx, ox, lx, ex, frx, rfl, rfl, hlx, hcx⟩
  · omega
  have hn : seg? lx ox (fs.length * 4) = some (flagsOf fs) := by rw [seg?_of _ _ _ hlx, hcx]
  refine Ctr.enter (n := 8) [.tmp 2] [(0, _)] Try.func105 rfl rfl rfl (lb rfl) Try.call105 ⟨rfl, trivial⟩ ?_
  intro cx fin fin0
  refine aG ?_
  refine aV (OpVal.eqNilSl tab_ok rfl rfl rfl) ?_
  refine aF ?_ (hb := by rfl)
  refine aSl (ps := []) ?_
  intro bt
  refine aG ?_
  refine aAp (Own.exact (cs := []) bt rfl) ?_ (hn := hn) (h1 := (flags_one fs))
  rintro _ _ ⟨a', cap', H', rfl, rfl, ho⟩
  refine aG ?_
  refine W.ret (fin _ _ (FinOk.first 1 (.tmp rfl .nil) rfl ?_))
  rw [Nat.zero_add] at ho
  refine ⟨a', cap', H', ?_, rfl, ho⟩
  rw [Nat.zero_add]
  rfl
def Fl.none : Fl := ⟨false, false, false, 0⟩
def turnFrom (hand : Nat) : Nat → Nat → List Fl → List Fl × Option (Nat × Nat)
  | 0, _, fs => (fs, Option.none)
  | m + 1, k, fs => if (fs.getD ((hand + k) % fs.length) Fl.none).goes.2 = true then (fs.set ((hand + k) % fs.length) (fs.getD ((hand + k) % fs.length) Fl.none).goes.1, some ((hand + k) % fs.length, k + 1))
    else turnFrom hand m (k + 1) (fs.set ((hand + k) % fs.length) (fs.getD ((hand + k) % fs.length) Fl.none).goes.1)
theorem turn_spec (fs : List Fl) (h1 : 1 ≤ fs.length) (h2 : fs.length ≤ 64) (hand : Nat) (hh : hand < fs.length) (a : Option Addr) (cap : Nat) (ro : HL) (hro : RoSl 4 (flagsOf fs) a fs.length ro) :
    Ctr Try.prog 102 [.slice a fs.length cap, .int .i64 (hand : Int)] [] ro (fun v L' => ∃ a' cap' H, L' = [H] ∧ Own 4 55 (flagsOf (turnFrom hand (2 * fs.length) 0 fs).1) a' fs.length cap' H ∧
      v = (match (turnFrom hand (2 * fs.length) 0 fs).2 with | some (i, k) => .tuple #[.int .i64 (i : Int), .int .i64 (((i + 1) % fs.length : Nat) : Int), .slice a' fs.length cap', .int .i64 (k : Int)] | Option.none => .tuple #[.int .i64 0, .int .i64 (hand : Int), .slice a' fs.length cap', .int .i64 0])) := by
  have hC := Clone_spec fs h1 h2 a cap ro hro
  obtain ⟨n, hn⟩ : ∃ n, fs.length = n := ⟨_, rfl⟩
  refine Ctr.enter (n := 48) [.tmp 4, .tmp 5, .tmp 6, .tmp 7] [(0, _), (1, _)] Try.func102 rfl rfl rfl (lb rfl) Try.call102 ⟨rfl, rfl, trivial⟩ ?_
  intro cx fin fin0
  refine aG ?_
  refine aC (o := hC) (h := ?_)
  rintro _ _ ⟨ao, co, Ho, rfl, rfl, hown⟩
  obtain ⟨bo, lo, rfl, rfl, g1, g2, g3⟩ := hown.some (by omega)
  have hlo : lo = flagsOf fs ++ lo.drop (fs.length * 4) := by rw [← g3, List.take_append_drop]
  have hrl : (lo.drop (fs.length * 4)).length = co * 4 - fs.length * 4 := by rw [List.length_drop, g2]
  generalize lo.drop (fs.length * 4) = rest at hlo hrl
  subst hlo
  rw [hn] at h1 h2 hh g1 hrl ⊢
  refine aG ?_
  repeat (first | refine gw ?_ | refine gN fun _ => ?_ | refine gB fun _ => ?_ | fail)
  refine aV (OpVal.mul rfl rfl (i64_in _ (by omega))) ?_
  refine aLp (fun q ρ1 L1 => ∃ (k : Nat) (gs : List Fl) (b8 : Nat), k ≤ 2 * n ∧ gs.length = n ∧ turnFrom hand (2 * n - k) k gs = turnFrom hand (2 * n) 0 fs ∧ q = 2 * n - k ∧ ρ1 = [(22, .int .i64 (k : Int)), (21, .int .i64 (2 * (n : Int))), (9, .int .i64 (n : Int)), (1, .int .i64 (hand : Int)), (8, .pointer (some ⟨b8, 0, none⟩)), (10, .func (.func 106) #[] #[.pointer (some ⟨b8, 0, none⟩)]), (11, .int .i64 0), (12, .int .i64 0)] ∧ L1 = [[(bo, .cells (flagsOf gs ++ rest).toArray 55 (0, 0))], [(b8, .cells #[.slice (some ⟨bo, 0, none⟩) n co] 152 (0, 0))]]) (o := ⟨0, fs, _, Nat.zero_le _, hn, rfl, rfl, rfl, rfl⟩) (h := ?_)
  rintro q ρ1 L1 ⟨k, gs, b8, hk, hgl, hturn, rfl, rfl, rfl⟩
  refine aG ?_
  by_cases hlt : k < 2 * n
  · refine aT ?_ (hb := by simp; omega)
    refine aV (OpVal.add rfl rfl (i64_in _ (by omega))) ?_
    have em : ((hand : Int) + (k : Int)).tmod (n : Int) = (((hand + k) % n : Nat) : Int) := by
      rw [show (hand : Int) + (k : Int) = ((hand + k : Nat) : Int) from by omega]
      rfl
    refine aV (OpVal.rem rfl rfl (by omega) em) ?_
    have hi : (hand + k) % n < gs.length := by rw [hgl]; exact Nat.mod_lt _ (by omega)
    have hg := goes_spec gs ((hand + k) % n) hi rest b8 bo co
    rw [hgl] at hg
    have hgd : gs.getD ((hand + k) % gs.length) Fl.none = gs[(hand + k) % n] := by
      rw [hgl, List.getD_eq_getElem?_getD, List.getElem?_eq_getElem hi, Option.getD_some]
    have hstep : turnFrom hand (2 * n - k) k gs = if gs[(hand + k) % n].goes.2 = true then (gs.set ((hand + k) % n) gs[(hand + k) % n].goes.1, some ((hand + k) % n, k + 1)) else turnFrom hand (2 * n - (k + 1)) (k + 1) (gs.set ((hand + k) % n) gs[(hand + k) % n].goes.1) := by
      rw [show 2 * n - k = (2 * n - (k + 1)) + 1 from by omega, turnFrom, hgd, hgl]
    generalize gs[(hand + k) % n] = f at hg hstep
    generalize hj : (hand + k) % n = j at *
    refine aC (o := hg) (h := ?_)
    rintro _ _ ⟨rfl, rfl⟩
    refine aG ?_
    have hsl : (gs.set j f.goes.1).length = n := by simp [hgl]
    by_cases hgo : f.goes.2 = true
    · rw [if_pos hgo] at hstep
      rw [hstep] at hturn
      refine aT ?_ (hb := by exact hgo)
      refine aV (OpVal.add rfl rfl (i64_in _ (by omega))) ?_
      refine aF ?_ (hb := by simp; omega)
      refine W.draw follows (by decide +kernel) (zG ?_)
      refine zV (OpVal.add rfl rfl (i64_in _ (by omega))) ?_
      have em2 : ((j : Int) + 1).tmod (n : Int) = (((j + 1) % n : Nat) : Int) := rfl
      refine zV (OpVal.rem rfl rfl (by omega) em2) ?_
      repeat (first | refine zL ?_ | fail)
      refine WZ.nil (aG ?_)
      refine W.ret (fin _ _ (FinOk.first 1 (.tmp rfl (.tmp rfl (.tmp rfl (.tmp rfl .nil)))) rfl ?_))
      rw [hn, ← hturn]
      exact ⟨_, _, _, rfl, ⟨by rw [flagsOf_len, hsl], .inr ⟨bo, flagsOf (gs.set j f.goes.1) ++ rest, rfl, rfl, g1, by rw [List.length_append, flagsOf_len, hsl, hrl]; omega, by rw [← hsl, ← flagsOf_len]; exact List.take_left⟩⟩, rfl⟩
    · rw [if_neg hgo] at hstep
      rw [hstep] at hturn
      refine aF ?_ (hb := by simpa using hgo)
      refine aV (OpVal.add rfl rfl (i64_in _ (by omega))) ?_
      refine aR (o := ⟨2 * n - (k + 1), by omega, k + 1, _, b8, by omega, hsl, hturn, rfl, rfl, rfl⟩)
  · refine aF ?_ (hb := by simp; omega)
    have hk2 : k = 2 * n := by omega
    subst hk2
    rw [Nat.sub_self, turnFrom] at hturn
    refine aT ?_ (hb := by rfl)
    refine W.draw follows (by decide +kernel) (zG ?_)
    repeat (first | refine zL ?_ | fail)
    refine WZ.nil (aG ?_)
    refine W.ret (fin _ _ (FinOk.first 1 (.tmp rfl (.tmp rfl (.tmp rfl (.tmp rfl .nil)))) rfl ?_))
    rw [hn, ← hturn]
    exact ⟨_, _, _, rfl, ⟨by rw [flagsOf_len, hgl], .inr ⟨bo, flagsOf gs ++ rest, rfl, rfl, g1, by rw [List.length_append, flagsOf_len, hgl, hrl]; omega, by rw [← hgl, ← flagsOf_len]; exact List.take_left⟩⟩, rfl⟩
theorem turnFrom_pos {hand : Nat} : ∀ {m k : Nat} {fs : List Fl} {i q : Nat}, (turnFrom hand m k fs).2 = some (i, q) → 0 < q
  | 0, _, _, _, _, h => by cases h
  | m + 1, k, fs, i, q, h => by
    unfold turnFrom at h
    split at h
    · simp at h; omega
    · exact turnFrom_pos h
theorem turnFrom_len {hand : Nat} : ∀ {m k : Nat} {fs : List Fl}, (turnFrom hand m k fs).1.length = fs.length
  | 0, _, _ => rfl
  | m + 1, k, fs => by
    unfold turnFrom
    split
    · simp
    · rw [turnFrom_len]; simp
theorem Turn_spec (fs : List Fl) (h1 : 1 ≤ fs.length) (h2 : fs.length ≤ 64) (hand : Nat) (hh : hand < fs.length) (a : Option Addr) (cap : Nat) (ro : HL) (hro : RoSl 4 (flagsOf fs) a fs.length ro) :
    Ctr Try.prog 96 [.slice a fs.length cap, .int .i64 (hand : Int)] [] ro (fun v L' => ∃ a' cap' H, L' = [H] ∧ Own 4 55 (flagsOf (turnFrom hand (2 * fs.length) 0 fs).1) a' fs.length cap' H ∧
      v = (match (turnFrom hand (2 * fs.length) 0 fs).2 with | some (i, _) => .tuple #[.int .i64 (i : Int), .int .i64 (((i + 1) % fs.length : Nat) : Int), .slice a' fs.length cap', .bool true] | Option.none => .tuple #[.int .i64 0, .int .i64 (hand : Int), .slice a' fs.length cap', .bool false])) := by
  have hT := turn_spec fs h1 h2 hand hh a cap ro hro
  have hpos := @turnFrom_pos hand (2 * fs.length) 0 fs
  generalize turnFrom hand (2 * fs.length) 0 fs = r at hT hpos
  obtain ⟨gs, r2⟩ := r
  cases r2 with
  | none =>
    refine Ctr.enter (n := 25) [.tmp 4, .tmp 5, .tmp 6, .tmp 7] [(0, _), (1, _)] Try.func96 rfl rfl rfl (lb rfl) Try.call96 ⟨rfl, rfl, trivial⟩ ?_
    intro cx fin fin0
    refine aG ?_
    refine aC (o := hT) (h := ?_)
    rintro _ _ ⟨a', cap', H, rfl, ho, rfl⟩
    refine aG ?_
    refine W.ret (fin _ _ (FinOk.first 1 (.tmp rfl (.tmp rfl (.tmp rfl (.tmp rfl .nil)))) rfl ?_))
    exact ⟨a', cap', H, rfl, ho, rfl⟩
  | some iq =>
    obtain ⟨i, q⟩ := iq
    have hq := hpos rfl
    refine Ctr.enter (n := 25) [.tmp 4, .tmp 5, .tmp 6, .tmp 7] [(0, _), (1, _)] Try.func96 rfl rfl rfl (lb rfl) Try.call96 ⟨rfl, rfl, trivial⟩ ?_
    intro cx fin fin0
    refine aG ?_
    refine aC (o := hT) (h := ?_)
    rintro _ _ ⟨a', cap', H, rfl, ho, rfl⟩
    refine aG ?_
    refine W.ret (fin _ _ (FinOk.first 1 (.tmp rfl (.tmp rfl (.tmp rfl (.tmp rfl .nil)))) rfl ?_))
    refine ⟨a', cap', H, rfl, ho, ?_⟩
    simp [pack, hq]
end Go.Proofs.Ytgipjpiiomgjjaa
