/-
  The device of the program: settle, Barrier, Crash; choices.
-/
import Derived.Test.YtpimbaphenignaaVf
namespace Go.Proofs.Ytpimbaphenignaa
open Go Go.Sl Go.IntWalk
set_option maxHeartbeats 8000000
set_option maxRecDepth 20000
set_option linter.unusedVariables false
def Dv.settle1 (d : Dv) (i : Int) (k : Bool) : Dv := (if k = true then d.setLast i (d.late i) else d).setLater i []
def settleF {σ : Type} (step : σ → σ × Bool) (s : Dv × σ) (i : Int) : Dv × σ := (s.1.settle1 i (step s.2).2, (step s.2).1)
def settle {σ : Type} (step : σ → σ × Bool) (s : Dv × σ) (ats : List Int) : Dv × σ := ats.foldl (settleF step) s
theorem settle1_in {d : Dv} {i j : Int} {k : Bool} : (d.settle1 i k).in_ j ↔ d.in_ j := by
  unfold Dv.settle1
  split
  · exact setLater_in.trans setLast_in
  · exact setLater_in
theorem settle1_late {d : Dv} (hd : d.Ok) {i j : Int} {k : Bool} (hi : d.in_ i) (hj : d.in_ j) (hne : i ≠ j) : (d.settle1 i k).late j = d.late j := by
  have hi' : 0 ≤ i ∧ i < d.later.length := by rw [hd.len]; exact hi
  unfold Dv.settle1
  split
  · have : ((d.setLast i (d.late i)).setLater i []).late j = if i = j then [] else (d.setLast i (d.late i)).late j := getD_set hi' hj.1
    rw [this, if_neg hne]
    rfl
  · have : (d.setLater i []).late j = if i = j then [] else d.late j := getD_set hi' hj.1
    rw [this, if_neg hne]
theorem settle1_ok {d : Dv} (hd : d.Ok) {i : Int} {k : Bool} (hi : d.in_ i) (hne : d.late i ≠ []) : (d.settle1 i k).Ok := by
  unfold Dv.settle1
  split
  · rcases hd.late hi with h | h
    · exact absurd h hne
    · exact (hd.setLast h).setLater (.inl rfl)
  · exact hd.setLater (.inl rfl)
/-- Those that are still to come have later bytes. -/
structure Still (d : Dv) (ats : List Int) : Prop where
  nd : ats.Nodup
  all : ∀ i ∈ ats, d.in_ i ∧ d.late i ≠ []
theorem laterIn_still (d : Dv) (from_ to : Int) : Still d (d.laterIn from_ to) := by
  refine ⟨(range_nodup _).sublist List.filter_sublist, fun i hi => ?_⟩
  unfold Dv.laterIn at hi
  rw [List.mem_filter, List.mem_map] at hi
  obtain ⟨⟨j, hj, rfl⟩, h2⟩ := hi
  simp only [List.mem_range, decide_eq_true_eq] at hj h2
  exact ⟨⟨by show (0 : Int) ≤ (j : Int); omega, by show (j : Int) < _; omega⟩, h2.2.2⟩
theorem Still.step {d : Dv} (hd : d.Ok) {i : Int} {l : List Int} (h : Still d (i :: l)) (k : Bool) : Still (d.settle1 i k) l := by
  obtain ⟨h1, h2⟩ := h
  rw [List.nodup_cons] at h1
  refine ⟨h1.2, fun j hj => ?_⟩
  obtain ⟨g1, g2⟩ := h2 j (List.mem_cons_of_mem _ hj)
  have hi := (h2 i List.mem_cons_self).1
  have hne : i ≠ j := by rintro rfl; exact h1.1 hj
  exact ⟨settle1_in.2 g1, by rw [settle1_late hd hi g1 hne]; exact g2⟩
theorem settle_all {σ : Type} (step : σ → σ × Bool) : ∀ (l : List Int) (s : Dv × σ), s.1.Ok → Still s.1 l → ∀ j, j ≤ l.length → (settle step s (l.take j)).1.Ok ∧ Still (settle step s (l.take j)).1 (l.drop j)
  | [], s, hd, hs, j, hj => by
    have : j = 0 := by simpa using hj
    subst this
    exact ⟨hd, hs⟩
  | i :: l, s, hd, hs, 0, _ => ⟨hd, hs⟩
  | i :: l, s, hd, hs, j + 1, hj => by
    have h1 := hs.all i List.mem_cons_self
    exact settle_all step l (settleF step s i) (settle1_ok hd h1.1 h1.2) (hs.step hd _) j (by simpa using hj)
theorem settle_next {σ : Type} (step : σ → σ × Bool) (s : Dv × σ) {ats : List Int} {j : Nat} (hj : j < ats.length) : settle step s (ats.take (j + 1)) = settleF step (settle step s (ats.take j)) ats[j] := by
  unfold settle
  rw [List.take_add_one, List.getElem?_eq_getElem hj, Option.toList_some, List.foldl_append]
  rfl
theorem settle_ok {σ : Type} (step : σ → σ × Bool) {s : Dv × σ} (hd : s.1.Ok) {ats : List Int} (hs : Still s.1 ats) : (settle step s ats).1.Ok := by
  have := (settle_all step ats s hd hs ats.length (Nat.le_refl _)).1
  rwa [List.take_length] at this
theorem settle_spec {σ : Type} (step : σ → σ × Bool) (Sat : σ → HL → Prop) (fv : Value)
    (hcall : ∀ s Hs, Sat s Hs → CtrV Try.prog fv [] [Hs] [] (fun v L' => ∃ Hs', v = .bool (step s).2 ∧ L' = [Hs'] ∧ Sat (step s).1 Hs'))
    (d : Dv) (hd : d.Ok) (b : Nat) (H : HL) (h : DevAt d b H) (s : σ) (Hs : HL) (hs : Sat s Hs) (from_ to : Int) :
    Ctr Try.prog 33 [.pointer (some ⟨b, 0, none⟩), .int .i64 from_, .int .i64 to, fv] [H, Hs] [] (fun v L' => ∃ H' Hs', L' = [H', Hs'] ∧ DevAt (settle step (d, s) (d.laterIn from_ to)).1 b H' ∧ Sat (settle step (d, s) (d.laterIn from_ to)).2 Hs') := by
  have hL := DLater_spec d hd b H h from_ to
  have hst := laterIn_still d from_ to
  have hlen : (d.laterIn from_ to).length ≤ 1024 := by
    unfold Dv.laterIn
    exact Nat.le_trans (List.length_filter_le _ _) (by have := hd.n.2; simpa using this)
  have hall := settle_all step (d.laterIn from_ to) (d, s) hd hst
  generalize d.laterIn from_ to = ats at *
  refine Ctr.enter (n := 38) [] [(0, _), (1, _), (2, _), (3, _)] Try.func33 rfl rfl rfl (lb rfl) Try.call33 ⟨rfl, rfl, rfl, rfl, trivial⟩ ?_
  intro cx fin fin0
  refine aG ?_
  refine aC (o := hL) (h := ?_)
  rintro _ _ ⟨a, cap, H2, Hz, rfl, rfl, h2, how⟩
  refine aG ?_
  repeat (first | refine gx ?_ | refine gN fun _ => ?_ | refine gB fun _ => ?_ | fail)
  refine aLp (fun k ρ1 L1 => ∃ (j : Nat) (H : HL) (Hs : HL), j ≤ ats.length ∧ k = ats.length - j ∧ DevAt (settle step (d, s) (ats.take j)).1 b H ∧ Sat (settle step (d, s) (ats.take j)).2 Hs ∧ ρ1 = [(15, .int .i64 (j : Int)), (14, .int .i64 (ats.length : Int)), (13, .slice a ats.length cap), (3, fv), (0, .pointer (some ⟨b, 0, none⟩))] ∧ L1 = [H, Hz, Hs]) (o := ⟨0, H2, Hs, Nat.zero_le _, rfl, h2, hs, rfl, rfl⟩) (h := ?_)
  rintro k ρ1 L1 ⟨j, H3, Hs3, hj, rfl, h3, hs3, rfl, rfl⟩
  refine aG ?_
  by_cases hlt : j < ats.length
  · have hz : (j : Int) < (ats.length : Int) := by omega
    have hnx := settle_next step (d, s) hlt
    obtain ⟨hok, hsti⟩ := hall j hj
    have hi := hsti.all ats[j] (by rw [List.drop_eq_getElem_cons hlt]; exact List.mem_cons_self)
    obtain ⟨bx, ox, lx, ex, frx, rfl, rfl, -, hld⟩ := RoSl.at (f := fun x : Int => [Value.int .i64 x]) (m := 1) (fun _ => rfl) (Own.roSl how) hlt
    have l0 : lx[ox + j * 1]? = some (.int .i64 ats[j]) := hld 0 (by decide)
    generalize ats[j] = q at *
    generalize settle step (d, s) (ats.take j) = t at *
    have hc := hcall t.2 Hs3 hs3
    obtain ⟨bl, bt, ah, ch, tl, tt, Hl, Ht, D, rfl, hml, hmt, hr, hh⟩ := h3
    obtain ⟨c, hg⟩ : ∃ c, mget tt q = some c := by
      cases hg : mget tt q with
      | none =>
        have := hr.later q hi.1
        rw [hg] at this
        exact absurd this hi.2
      | some c => exact ⟨c, rfl⟩
    have hlc : t.1.late q = c.xs := by rw [hr.later q hi.1, hg]
    obtain ⟨-, h20⟩ := hr.keys q c hg
    repeat (first | refine gh hz ?_ | refine gN fun _ => ?_ | refine gB fun _ => ?_ | fail)
    refine aV (OpVal.ixI tab_ok rfl rfl rfl rfl rfl hlt) ?_
    refine aV (OpVal.load tab_ok rfl (at_own 1 rfl) l0) ?_
    refine aCV (o := hc) (h := ?_)
    rintro _ _ ⟨Hs4, rfl, rfl, hs4⟩
    refine aG ?_
    refine W.order [1, 1, 0] rfl ?_
    refine W.split4 rfl ?_
    refine aG ?_
    have hset : (settleF step t q).1 = t.1.settle1 q (step t.2).2 := rfl
    have hset2 : (settleF step t q).2 = (step t.2).1 := rfl
    rw [← hnx] at hset hset2
    generalize ht2 : settle step (d, s) (ats.take (j + 1)) = t2 at *
    rw [← hset2] at hs4
    generalize (step t.2).2 = kb at *
    have hmq := hmt
    obtain ⟨es, clock, rfl, hm, hbc, hbn⟩ := hmt
    have hcu : c.xs.length = 20 ∧ u8ok c.xs := by
      rcases hok.late hi.1 with h0 | h0
      · exact absurd h0 hi.2
      · rwa [hlc] at h0
    cases kb
    case' true =>
      have hs1 : t2.1 = (t.1.setLast q c.xs).setLater q [] := by rw [hset, ← hlc]; rfl
      have hr2 := (hr.putl hi.1 (hr.int q c hg)).del (hok.setLast hcu) (setLast_in.2 hi.1)
      repeat (first | refine gx ?_ | refine gN fun _ => ?_ | refine gB fun _ => ?_ | fail)
      refine W.drawH tab_ok 11 [.b false, .b false, .b false, .b false, .b false, .b false, .b false, .b false, .b false, .b false, .b false] [] follows (by decide +kernel) (by decide +kernel) rfl (by decide) rfl ?_
      intro _
      refine dG ?_
      repeat (first | refine dL ?_ | refine dS ?_ | (first | refine dGo ?_ | refine dSk ?_ | refine dUn ?_ | fail) | (first | refine dPT ?_ | refine dPF ?_ | fail) | refine dV (OpVal.add rfl rfl (i64_in _ (by omega))) ?_ | refine dV (OpVal.sub rfl rfl (i64_in _ (by omega))) ?_ | refine dV (OpVal.neBool tab_ok rfl rfl rfl) ?_ | refine dV (OpVal.eqBool tab_ok rfl rfl rfl) ?_ | refine dV (OpVal.eqNil tab_ok rfl rfl rfl) ?_ | refine dV (OpVal.neNil tab_ok rfl rfl rfl) ?_ | fail)
      refine dV (OpVal.lookup1 (f := Cl.v) Try.underlying61 Try.underlying3 rfl rfl (show At _ _ bt (.map es clock) from .inr (by simp)) hm hg) ?_
      refine WD.nil (W.dropNil (aG ?_))
      refine aSkp (mapPut (f := Cl.v) (v := c) Try.underlying61 Try.underlying3 rfl rfl rfl (by intro p hp; simp [hp]) hml) ?_
      rintro _ ⟨Hl2, rfl, hml2⟩
      refine aG ?_
      refine W.order [1, 0, 0, 0, 0, 0] rfl ?_
    case' false =>
      have hs1 : t2.1 = t.1.setLater q [] := hset
      have hr2 := hr.del hok hi.1
      have hml2 := hml
      repeat (first | refine gx ?_ | refine gN fun _ => ?_ | refine gB fun _ => ?_ | fail)
    all_goals
      have hn2 : t2.1.lasts.length = t.1.lasts.length := by rw [hs1]; simp [Dv.setLater, Dv.setLast]
      have hh2 : t2.1.head = t.1.head := by rw [hs1]; rfl
      rw [← hs1] at hr2
      repeat (first | refine gx ?_ | refine gN fun _ => ?_ | refine gB fun _ => ?_ | fail)
      refine aPu (mqDel (f := Cl.v) Try.underlying61 Try.underlying3 rfl rfl (by intro p hp; rw [List.mem_singleton.1 hp]; simp) hmq) ?_
      rintro _ _ ⟨Ht2, rfl, hmt2⟩
      refine aG ?_
      repeat (first | refine gx ?_ | refine gN fun _ => ?_ | refine gB fun _ => ?_ | fail)
      refine W.groupV [1, 1, 0, 0] rfl ?_
      have h4 : ∀ X, X = [(b, Obj.cells (List.toArray [.int .i64 t.1.lasts.length, .map (some bl), .map (some bt), .slice ah t.1.head.length ch]) 63 (0, 0))] ++ (_ ++ (Ht2 ++ D)) → DevAt t2.1 b X := fun X hX => ⟨bl, bt, ah, ch, _, _, _, _, D, by rw [hX, hn2, hh2], hml2, hmt2, hr2, by rw [hh2]; exact hh⟩
      refine aG ?_
      refine aR (o := ⟨ats.length - (j + 1), by omega, j + 1, _, Hs4, by omega, rfl, by rw [ht2]; exact h4 _ rfl, by rw [ht2]; exact hs4, rfl, rfl⟩)
  · obtain rfl : j = ats.length := by omega
    repeat (first | refine gx ?_ | refine gN fun _ => ?_ | refine gB fun _ => ?_ | fail)
    rw [List.take_length] at h3 hs3
    refine W.order [0, 1] rfl ?_
    refine fin0 _ _ (FinOk.first 2 .nil rfl ?_)
    exact ⟨_, _, rfl, h3, hs3⟩
end Go.Proofs.Ytpimbaphenignaa
