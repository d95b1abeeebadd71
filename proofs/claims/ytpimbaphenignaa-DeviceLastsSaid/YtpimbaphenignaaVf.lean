/-
  The device of the program: Later.
-/
import Derived.Test.YtpimbaphenignaaVe
namespace Go.Proofs.Ytpimbaphenignaa
open Go Go.Sl Go.IntWalk
set_option maxHeartbeats 4000000
set_option maxRecDepth 20000
set_option linter.unusedVariables false
theorem filter_step {p : Int → Bool} {zs ks : List Int} {todo : List (Int × Cl)} {j : Nat} (hj : j < todo.length) (h : (zs ++ (todo.map (·.1)).filter p).Perm ks) :
    ((if p todo[j].1 = true then zs ++ [todo[j].1] else zs) ++ ((todo.eraseIdx j).map (·.1)).filter p).Perm ks := by
  have e : (todo.map (·.1)).Perm (todo[j].1 :: (todo.eraseIdx j).map (·.1)) := by
    have h1 : todo.Perm (todo[j] :: todo.eraseIdx j) := by
      have h2 : todo = todo.take j ++ todo[j] :: todo.drop (j + 1) := by simp
      have h3 : todo.eraseIdx j = todo.take j ++ todo.drop (j + 1) := List.eraseIdx_eq_take_drop_succ _ _
      rw [h3]
      conv => lhs; rw [h2]
      exact List.perm_middle
    exact h1.map _
  have e2 := e.filter p
  rw [List.filter_cons] at e2
  split
  · rename_i hp
    rw [if_pos hp] at e2
    refine List.Perm.trans ?_ h
    rw [List.append_assoc]
    exact (List.Perm.refl zs).append e2.symm
  · rename_i hp
    rw [if_neg hp] at e2
    exact (List.Perm.append (List.Perm.refl zs) e2.symm).trans h
theorem DLater_spec (d : Dv) (hd : d.Ok) (b : Nat) (H : HL) (h : DevAt d b H) (from_ to : Int) : Ctr Try.prog 18 [.pointer (some ⟨b, 0, none⟩), .int .i64 from_, .int .i64 to] [H] []
    (fun v L' => ∃ a cap H' Hz, v = .slice a (d.laterIn from_ to).length cap ∧ L' = [H', Hz] ∧ DevAt d b H' ∧ Own 1 3 (ints (d.laterIn from_ to)) a (d.laterIn from_ to).length cap Hz) := by
  obtain ⟨bl, bt, ah, ch, tl, tt, Hl, Ht, D, rfl, hml, ⟨es, clock, rfl, hm, hbc, hbn⟩, hr, hh⟩ := h
  have hlim : (tt.map (·.1)).length ≤ 1024 := by
    have h1 := hr.sorted (-1) 100000 (List.Perm.refl _)
    have h2 : ((tt.map (·.1)).filter fun k => decide ((-1 : Int) ≤ k ∧ k < 100000)) = tt.map (·.1) := by
      rw [List.filter_eq_self]
      intro k hk
      obtain ⟨c, hc⟩ := mget_key.1 hk
      obtain ⟨⟨g1, g2⟩, -⟩ := hr.keys k c hc
      have := hd.n.2
      simp only [decide_eq_true_eq]
      omega
    rw [h2] at h1
    have h3 := sortI_len (tt.map (·.1))
    rw [h1] at h3
    have h4 : (d.laterIn (-1) 100000).length ≤ d.lasts.length := by
      unfold Dv.laterIn
      exact Nat.le_trans (List.length_filter_le _ _) (by simp)
    have := hd.n.2
    omega
  have hgoal : ∀ zs : List Int, zs.Perm ((tt.map (·.1)).filter fun k => decide (from_ ≤ k ∧ k < to)) → sortI zs = d.laterIn from_ to := fun zs hz => hr.sorted from_ to hz
  generalize d.laterIn from_ to = out at *
  refine Ctr.enter (n := 33) [.tmp 6] [(0, _), (1, _), (2, _)] Try.func18 rfl rfl rfl (lb rfl) Try.call18 ⟨rfl, rfl, rfl, trivial⟩ ?_
  intro cx fin fin0
  refine aG ?_
  refine W.split4 rfl ?_
  refine aG ?_
  repeat (first | refine gx ?_ | refine gN fun _ => ?_ | refine gB fun _ => ?_ | fail)
  refine aW (NewOf.range (b := bt) (clock := clock) (es := es) Try.underlying61 rfl (at_own 2 rfl)) ?_
  intro _
  refine aG ?_
  rename_i r
  refine W.groupV [3, 0] rfl ?_
  have hrg0 : IsRg .i64 Cl.v tt tt none bt r _ := IsMq.rg (r := r) hm hbc hbn
  refine W.nilChunk ?_
  refine aLp (fun k ρ1 L1 => ∃ (zs : List Int) (a : Option Addr) (cap : Nat) (Hz Hr : HL) (todo : List (Int × Cl)) (cur : Option (Int × Cl)), k = todo.length ∧ todo.length + zs.length ≤ 1024 ∧ IsRg .i64 Cl.v tt todo cur bt r Hr ∧ Own 1 3 (ints zs) a zs.length cap Hz ∧ (zs ++ (todo.map (·.1)).filter fun k => decide (from_ ≤ k ∧ k < to)).Perm ((tt.map (·.1)).filter fun k => decide (from_ ≤ k ∧ k < to)) ∧ ρ1 = [(13, .pointer (some ⟨r, 0, none⟩)), (7, .slice a zs.length cap), (1, .int .i64 from_), (2, .int .i64 to)] ∧ L1 = [Hz, Hr, [(b, Obj.cells (List.toArray [.int .i64 d.lasts.length, .map (some bl), .map (some bt), .slice ah d.head.length ch]) 63 (0, 0))], Hl, D]) (o := ⟨[], none, 0, [], _, tt, none, rfl, by simpa using hlim, hrg0, Own.nil 1 _, List.Perm.refl _, rfl, rfl⟩) (h := ?_)
  rintro k ρ1 L1 ⟨zs, a, cap, Hz, Hr, todo, cur, rfl, hbd, hrg, how, hperm, rfl, rfl⟩
  refine aG ?_
  refine aPr (mapNext rfl (by intro p hp; simp [hp]) hrg) ?_
  rintro _ _ ⟨Hr2, rfl, ⟨rfl, rfl, hrg2⟩ | ⟨j, hj, rfl, hrg2⟩⟩
  refine aG ?_
  · repeat (first | refine gx ?_ | refine gN fun _ => ?_ | refine gB fun _ => ?_ | fail)
    obtain ⟨H1, H2, rfl, hmq⟩ := hrg2.mq
    have hs := hgoal zs (by simpa using hperm)
    have hlz : zs.length ≤ 1024 := by simpa using hbd
    have hlo := sortI_len zs
    rw [hs] at hlo
    have hS := Sort_spec zs (by omega) a cap Hz how
    rw [hs] at hS
    refine W.split2 rfl ?_
    refine aC (o := hS) (h := ?_)
    rintro _ _ ⟨Hz2, rfl, how2⟩
    refine aG ?_
    repeat (first | refine gx ?_ | refine gN fun _ => ?_ | refine gB fun _ => ?_ | fail)
    refine W.groupV [3, 3, 1, 2] rfl ?_
    refine W.ret (fin _ _ (FinOk.first 2 (.tmp rfl .nil) rfl ?_))
    exact ⟨_, _, _, _, by rw [hlo]; rfl, rfl, ⟨bl, bt, ah, ch, tl, tt, Hl, H1, D, rfl, hml, hmq, hr, hh⟩, by rw [hlo]; exact how2⟩
  · refine aG ?_
    repeat (first | refine gx ?_ | refine gN fun _ => ?_ | refine gB fun _ => ?_ | fail)
    refine aV (OpVal.entry rfl (fun p hp => .inl (List.mem_append_left _ hp)) hrg2) ?_
    have hst := filter_step hj hperm
    have hel : (todo.eraseIdx j).length = todo.length - 1 := by rw [List.length_eraseIdx, if_pos hj]
    generalize todo[j].1 = q at *
    generalize todo.eraseIdx j = todo2 at *
    by_cases h1 : from_ ≤ q
    · by_cases h2 : q < to
      · rw [if_pos (by simp [h1, h2])] at hst
        repeat (first | refine gh (gc2 h1 h2) ?_ | refine gN fun _ => ?_ | refine gB fun _ => ?_ | fail)
        refine aSl (ps := [_]) ?_
        intro bt
        refine aG ?_
        refine aAp (how) ?_
        rintro _ _ ⟨_, _, _, rfl, rfl, ho⟩
        refine aG ?_
        have e : ints zs ++ [.int .i64 q] = ints (zs ++ [q]) := by simp [ints]
        rw [e] at ho
        rw [show zs.length + 1 = (zs ++ [q]).length by simp] at *
        repeat (first | refine gh (gc2 h1 h2) ?_ | refine gN fun _ => ?_ | refine gB fun _ => ?_ | fail)
        refine aR (o := ⟨todo2.length, by omega, zs ++ [q], _, _, _, _, todo2, _, rfl, by simp at hbd ⊢; omega, hrg2, ho, hst, rfl, rfl⟩)
      · rw [if_neg (by simp [h1, h2])] at hst
        repeat (first | refine gh (gc2 h1 h2) ?_ | refine gN fun _ => ?_ | refine gB fun _ => ?_ | fail)
        refine aR (o := ⟨todo2.length, by omega, zs, _, _, _, _, todo2, _, rfl, by omega, hrg2, how, hst, rfl, rfl⟩)
    · rw [if_neg (by simp [h1])] at hst
      repeat (first | refine gh h1 ?_ | refine gN fun _ => ?_ | refine gB fun _ => ?_ | fail)
      refine aR (o := ⟨todo2.length, by omega, zs, _, _, _, _, todo2, _, rfl, by omega, hrg2, how, hst, rfl, rfl⟩)
end Go.Proofs.Ytpimbaphenignaa
