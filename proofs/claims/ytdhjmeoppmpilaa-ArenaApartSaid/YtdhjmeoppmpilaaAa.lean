/-
  Arenas, as plain Lean sees them; contracts of Len, in, sum, Frames, Start, Of, Part, Cut.
-/
import Derived.Test.YtdhjmeoppmpilaaPa
namespace Go.Proofs.Ytdhjmeoppmpilaa
open Go Go.Sl Go.IntWalk
set_option maxHeartbeats 2000000
def PtsAt : List Pt → List Nat → HL → Prop
  | [], bs, H => bs = [] ∧ H = []
  | p :: ps, bs, H => ∃ b bs' Hp H', bs = b :: bs' ∧ H = Hp ++ H' ∧ PtAt p b Hp ∧ PtsAt ps bs' H'
def ptrs (bs : List Nat) : List Value := bs.map fun b => .pointer (some ⟨b, 0, none⟩)
theorem PtsAt.len : ∀ {ps : List Pt} {bs : List Nat} {H : HL}, PtsAt ps bs H → bs.length = ps.length
  | [], bs, H, h => by obtain ⟨rfl, _⟩ := h; rfl
  | p :: ps, bs, H, h => by
    obtain ⟨b, bs', Hp, H', rfl, rfl, _, h2⟩ := h
    simp [h2.len]
theorem PtsAt.get : ∀ {ps : List Pt} {bs : List Nat} {H : HL} {i : Nat} (hi : i < ps.length), PtsAt ps bs H → ∃ b Hi, bs[i]? = some b ∧ PtAt ps[i] b Hi ∧ ∀ x ∈ Hi, x ∈ H
  | [], _, _, _, hi, _ => absurd hi (by simp)
  | p :: ps, bs, H, 0, hi, h => by
    obtain ⟨b, bs', Hp, H', rfl, rfl, h1, h2⟩ := h
    exact ⟨b, Hp, rfl, h1, fun x hx => by simp [hx]⟩
  | p :: ps, bs, H, i + 1, hi, h => by
    obtain ⟨b, bs', Hp, H', rfl, rfl, h1, h2⟩ := h
    obtain ⟨b2, Hi, g1, g2, g3⟩ := PtsAt.get (i := i) (by simpa using hi) h2
    exact ⟨b2, Hi, by simpa using g1, by simpa using g2, fun x hx => by simp [g3 x hx]⟩
theorem PtsAt.snoc : ∀ {ps : List Pt} {bs : List Nat} {H : HL} {p : Pt} {b : Nat} {Hp : HL}, PtsAt ps bs H → PtAt p b Hp → PtsAt (ps ++ [p]) (bs ++ [b]) (H ++ Hp)
  | [], bs, H, p, b, Hp, h, hp => by
    obtain ⟨rfl, rfl⟩ := h
    exact ⟨b, [], Hp, [], rfl, by simp, hp, rfl, rfl⟩
  | q :: ps, bs, H, p, b, Hp, h, hp => by
    obtain ⟨b2, bs', Hp', H', rfl, rfl, h1, h2⟩ := h
    exact ⟨b2, bs' ++ [b], Hp', H' ++ Hp, rfl, by simp, h1, h2.snoc hp⟩
/-- The arena of the partitions ps stands at block b, in the chunk H. -/
def ArAt (ps : List Pt) (b : Nat) (H : HL) : Prop := ∃ bs bl l cap Hp, H = (b, .cells #[.slice (some ⟨bl, 0, none⟩) ps.length cap] 86 (0, 0)) :: (bl, .cells (List.toArray l) 37 (0, 0)) :: Hp ∧
  ps.length ≤ cap ∧ l.take ps.length = ptrs bs ∧ PtsAt ps bs Hp
theorem ptr_at {l : List Value} {n : Nat} {bs : List Nat} {i b : Nat} (h : l.take n = ptrs bs) (hi : i < n) (hb : bs[i]? = some b) : l[0 + i * 1]? = some (.pointer (some ⟨b, 0, none⟩)) := by
  have h1 := congrArg (fun l => l[i]?) h
  simp only [List.getElem?_take, if_pos hi, ptrs, List.getElem?_map, hb, Option.map_some] at h1
  simpa using h1
def lens (ps : List Pt) : List Nat := ps.map fun p => p.fs.length
def tot (g : Pt → Int) (ps : List Pt) : Int := ps.foldl (fun a p => a + g p) 0
theorem tot_next (g : Pt → Int) {ps : List Pt} {i : Nat} (hi : i < ps.length) : tot g (ps.take (i + 1)) = tot g (ps.take i) + g ps[i] := by
  unfold tot
  rw [List.take_add_one, List.foldl_append]
  simp [hi]
theorem tot_bound (g : Pt → Int) {ps : List Pt} (h : ∀ p ∈ ps, 0 ≤ g p ∧ g p ≤ 64) : 0 ≤ tot g ps ∧ tot g ps ≤ ps.length * 64 := by
  unfold tot
  have : ∀ (ps : List Pt) (a : Int), (∀ p ∈ ps, 0 ≤ g p ∧ g p ≤ 64) → a ≤ ps.foldl (fun a p => a + g p) a ∧ ps.foldl (fun a p => a + g p) a ≤ a + ps.length * 64 := by
    intro ps
    induction ps with
    | nil => intro a _; simp
    | cons p ps ih =>
      intro a h
      have h1 := h p (by simp)
      have h2 := ih (a + g p) (fun q hq => h q (by simp [hq]))
      simp only [List.foldl_cons, List.length_cons]
      omega
  have := this ps 0 h
  omega
theorem PLen_spec (p : Pt) (b : Nat) (H : HL) (hp : PtAt p b H) : Ctr Try.prog 25 [.pointer (some ⟨b, 0, none⟩)] [] H (fun v L' => v = .int .i64 (p.fs.length : Int) ∧ L' = []) := by
  obtain ⟨bf, bm, es, clock, rfl, hm⟩ := hp
  refine Ctr.enter (n := 8) [.tmp 2] [(0, _)] Try.func25 rfl rfl rfl (Nat.le_of_ble_eq_true rfl) Try.call25 ⟨rfl, trivial⟩ ?_
  intro cx fin fin0
  refine W.step tab_ok rfl rfl ?_
  repeat (first | (refine W.isLoad ?_; refine W.val (OpVal.load tab_ok rfl (by first | exact at_own 0 rfl | exact at_own 1 rfl | exact at_own 2 rfl | exact at_own 3 rfl | exact at_own 4 rfl | exact at_own 5 rfl | exact at_own 6 rfl | exact at_own 7 rfl | exact at_own 8 rfl | exact at_own 9 rfl | exact at_own 10 rfl | exact at_own 11 rfl | exact at_ro 0 rfl | exact at_ro 1 rfl | exact at_ro 2 rfl | exact at_ro 3 rfl) (by rfl)) (by exact Nat.le_of_ble_eq_true rfl) ?_; refine W.step tab_ok rfl rfl ?_) | (refine W.isStore ?_; refine W.store tab_ok rfl (by first | exact Upd.here | exact (Upd.there Upd.here) | exact (Upd.there (Upd.there Upd.here)) | exact (Upd.there (Upd.there (Upd.there Upd.here))) | exact (Upd.there (Upd.there (Upd.there (Upd.there Upd.here)))) | exact (Upd.there (Upd.there (Upd.there (Upd.there (Upd.there Upd.here))))) | exact (Upd.there (Upd.there (Upd.there (Upd.there (Upd.there (Upd.there Upd.here)))))) | exact (Upd.there (Upd.there (Upd.there (Upd.there (Upd.there (Upd.there (Upd.there Upd.here))))))) | exact (Upd.there (Upd.there (Upd.there (Upd.there (Upd.there (Upd.there (Upd.there (Upd.there Upd.here)))))))) | exact (Upd.there (Upd.there (Upd.there (Upd.there (Upd.there (Upd.there (Upd.there (Upd.there (Upd.there Upd.here))))))))) | exact (Upd.there (Upd.there (Upd.there (Upd.there (Upd.there (Upd.there (Upd.there (Upd.there (Upd.there (Upd.there Upd.here)))))))))) | exact (Upd.there (Upd.there (Upd.there (Upd.there (Upd.there (Upd.there (Upd.there (Upd.there (Upd.there (Upd.there (Upd.there Upd.here)))))))))))) rfl rfl rfl rfl rfl (by rfl) ?_; refine W.step tab_ok rfl rfl ?_) | (refine W.isNew ?_; refine W.new tab_ok rfl rfl (by exact Nat.le_of_ble_eq_true rfl) ?_; intro _; refine W.step tab_ok rfl rfl ?_) | (refine W.isBox ?_; refine W.box rfl rfl (by exact Nat.le_of_ble_eq_true rfl) ?_; intro _; refine W.step tab_ok rfl rfl ?_))
  refine W.ret (fin _ _ (FinOk.mk' ([]) (.tmp rfl .nil) (by repeat (first | exact Sel.nil | (apply Sel.cons; (repeat (first | exact Pick.here | apply Pick.there))))) rfl ?_))
  exact ⟨rfl, rfl⟩
theorem ALen_spec (ps : List Pt) (b : Nat) (H : HL) (ha : ArAt ps b H) : Ctr Try.prog 19 [.pointer (some ⟨b, 0, none⟩)] [] H (fun v L' => v = .int .i64 (ps.length : Int) ∧ L' = []) := by
  obtain ⟨bs, bl, l, cap, Hp, rfl, hc, hl, hps⟩ := ha
  refine Ctr.enter (n := 8) [.tmp 2] [(0, _)] Try.func19 rfl rfl rfl (Nat.le_of_ble_eq_true rfl) Try.call19 ⟨rfl, trivial⟩ ?_
  intro cx fin fin0
  refine W.step tab_ok rfl rfl ?_
  repeat (first | (refine W.isLoad ?_; refine W.val (OpVal.load tab_ok rfl (by first | exact at_own 0 rfl | exact at_own 1 rfl | exact at_own 2 rfl | exact at_own 3 rfl | exact at_own 4 rfl | exact at_own 5 rfl | exact at_own 6 rfl | exact at_own 7 rfl | exact at_own 8 rfl | exact at_own 9 rfl | exact at_own 10 rfl | exact at_own 11 rfl | exact at_ro 0 rfl | exact at_ro 1 rfl | exact at_ro 2 rfl | exact at_ro 3 rfl) (by rfl)) (by exact Nat.le_of_ble_eq_true rfl) ?_; refine W.step tab_ok rfl rfl ?_) | (refine W.isStore ?_; refine W.store tab_ok rfl (by first | exact Upd.here | exact (Upd.there Upd.here) | exact (Upd.there (Upd.there Upd.here)) | exact (Upd.there (Upd.there (Upd.there Upd.here))) | exact (Upd.there (Upd.there (Upd.there (Upd.there Upd.here)))) | exact (Upd.there (Upd.there (Upd.there (Upd.there (Upd.there Upd.here))))) | exact (Upd.there (Upd.there (Upd.there (Upd.there (Upd.there (Upd.there Upd.here)))))) | exact (Upd.there (Upd.there (Upd.there (Upd.there (Upd.there (Upd.there (Upd.there Upd.here))))))) | exact (Upd.there (Upd.there (Upd.there (Upd.there (Upd.there (Upd.there (Upd.there (Upd.there Upd.here)))))))) | exact (Upd.there (Upd.there (Upd.there (Upd.there (Upd.there (Upd.there (Upd.there (Upd.there (Upd.there Upd.here))))))))) | exact (Upd.there (Upd.there (Upd.there (Upd.there (Upd.there (Upd.there (Upd.there (Upd.there (Upd.there (Upd.there Upd.here)))))))))) | exact (Upd.there (Upd.there (Upd.there (Upd.there (Upd.there (Upd.there (Upd.there (Upd.there (Upd.there (Upd.there (Upd.there Upd.here)))))))))))) rfl rfl rfl rfl rfl (by rfl) ?_; refine W.step tab_ok rfl rfl ?_) | (refine W.isNew ?_; refine W.new tab_ok rfl rfl (by exact Nat.le_of_ble_eq_true rfl) ?_; intro _; refine W.step tab_ok rfl rfl ?_) | (refine W.isBox ?_; refine W.box rfl rfl (by exact Nat.le_of_ble_eq_true rfl) ?_; intro _; refine W.step tab_ok rfl rfl ?_))
  refine W.ret (fin _ _ (FinOk.mk' ([]) (.tmp rfl .nil) (by repeat (first | exact Sel.nil | (apply Sel.cons; (repeat (first | exact Pick.here | apply Pick.there))))) rfl ?_))
  exact ⟨rfl, rfl⟩
theorem ain_spec (ps : List Pt) (b : Nat) (H : HL) (ha : ArAt ps b H) (i : Int) : Ctr Try.prog 54 [.pointer (some ⟨b, 0, none⟩), .int .i64 i] [] H (fun v L' => v = .bool (decide (0 ≤ i ∧ i < ps.length)) ∧ L' = []) := by
  have hL := ALen_spec ps b H ha
  refine Ctr.enter (n := 13) [.tmp 4] [(0, _), (1, _)] Try.func54 rfl rfl rfl (Nat.le_of_ble_eq_true rfl) Try.call54 ⟨rfl, rfl, trivial⟩ ?_
  intro cx fin fin0
  refine W.step tab_ok rfl rfl ?_
  by_cases h : 0 ≤ i
  · refine W.guardGo rfl rfl (by simp [h]) (W.step tab_ok rfl rfl ?_)
    refine W.guardGo rfl rfl (by simp [h]) (W.step tab_ok rfl rfl ?_)
    refine W.guardGo rfl rfl (by simp [h]) (W.step tab_ok rfl rfl ?_)
    refine W.call rfl rfl rfl rfl (hL) (by repeat (first | exact Sel.nil | (apply Sel.cons; (repeat (first | exact Pick.here | apply Pick.there))))) (by repeat (first | exact RoIn.nil | exact RoIn.same | refine RoIn.cons (by first | exact at_own 0 rfl | exact at_own 1 rfl | exact at_own 2 rfl | exact at_own 3 rfl | exact at_own 4 rfl | exact at_own 5 rfl | exact at_own 6 rfl | exact at_own 7 rfl | exact at_own 8 rfl | exact at_own 9 rfl | exact at_own 10 rfl | exact at_own 11 rfl | exact at_ro 0 rfl | exact at_ro 1 rfl | exact at_ro 2 rfl | exact at_ro 3 rfl | exact at_ro 4 rfl | exact at_ro 5 rfl) ?_ | refine RoIn.append ?_ ?_ | exact RoIn.own 0 rfl | exact RoIn.own 1 rfl | exact RoIn.own 2 rfl | exact RoIn.own 3 rfl | exact RoIn.own 4 rfl | exact RoIn.own 5 rfl | exact RoIn.own 6 rfl | exact RoIn.own 7 rfl | exact RoIn.own 8 rfl | exact RoIn.own 9 rfl | exact RoIn.own 10 rfl | exact RoIn.own 11 rfl | (intro p hp; simp [hp]; done))) (by exact Nat.le_of_ble_eq_true rfl) ?_
    rintro _ _ ⟨rfl, rfl⟩
    refine W.step tab_ok rfl rfl ?_
    refine W.guardGo rfl rfl (by simp [h]) (W.step tab_ok rfl rfl ?_)
    refine W.val (OpVal.pickT rfl (by simp [h]) rfl) (by exact Nat.le_of_ble_eq_true rfl) (W.step tab_ok rfl rfl ?_)
    refine W.ret (fin _ _ (FinOk.mk' ([]) (.tmp rfl .nil) (by repeat (first | exact Sel.nil | (apply Sel.cons; (repeat (first | exact Pick.here | apply Pick.there))))) rfl ?_))
    exact ⟨by simp [pack, h], rfl⟩
  · refine W.guardSkip rfl rfl (by simp [h]) (by exact Nat.le_of_ble_eq_true rfl) (W.step tab_ok rfl rfl ?_)
    refine W.guardSkip rfl rfl (by simp [h]) (by exact Nat.le_of_ble_eq_true rfl) (W.step tab_ok rfl rfl ?_)
    refine W.guardSkip rfl rfl (by simp [h]) (by exact Nat.le_of_ble_eq_true rfl) (W.step tab_ok rfl rfl ?_)
    refine W.guardSkip rfl rfl (by simp [h]) (by exact Nat.le_of_ble_eq_true rfl) (W.step tab_ok rfl rfl ?_)
    refine W.val (OpVal.pickF rfl (by simp [h]) rfl) (by exact Nat.le_of_ble_eq_true rfl) (W.step tab_ok rfl rfl ?_)
    refine W.ret (fin _ _ (FinOk.mk' ([]) (.tmp rfl .nil) (by repeat (first | exact Sel.nil | (apply Sel.cons; (repeat (first | exact Pick.here | apply Pick.there))))) rfl ?_))
    exact ⟨by simp [pack, h], rfl⟩
theorem sum_spec (g : FuncId) (val : Pt → Int) (hg : ∀ p b H, PtAt p b H → p.Ok → Ctr Try.prog g [.pointer (some ⟨b, 0, none⟩)] [] H (fun v L' => v = .int .i64 (val p) ∧ L' = [])) (hv : ∀ p : Pt, p.Ok → 0 ≤ val p ∧ val p ≤ 64)
    (ps : List Pt) (hok : ∀ p ∈ ps, p.Ok) (hn : ps.length ≤ 1000) (b : Nat) (H : HL) (ha : ArAt ps b H) (i : Nat) (hi : i ≤ ps.length) :
    Ctr Try.prog 53 [.pointer (some ⟨b, 0, none⟩), .int .i64 (i : Int), .func (.func g) #[] #[]] [] H (fun v L' => v = .int .i64 (tot val (ps.take i)) ∧ L' = []) := by
  obtain ⟨bs, bl, l, cap, Hp, rfl, hc, hl, hps⟩ := ha
  have hbl := hps.len
  refine Ctr.enter (n := 28) [.tmp 6] [(0, _), (1, _), (2, _)] Try.func53 rfl rfl rfl (Nat.le_of_ble_eq_true rfl) Try.call53 ⟨rfl, rfl, rfl, trivial⟩ ?_
  intro cx fin fin0
  refine W.step tab_ok rfl rfl ?_
  repeat (first | (refine W.isLoad ?_; refine W.val (OpVal.load tab_ok rfl (by first | exact at_own 0 rfl | exact at_own 1 rfl | exact at_own 2 rfl | exact at_own 3 rfl | exact at_own 4 rfl | exact at_own 5 rfl | exact at_own 6 rfl | exact at_own 7 rfl | exact at_own 8 rfl | exact at_own 9 rfl | exact at_own 10 rfl | exact at_own 11 rfl | exact at_ro 0 rfl | exact at_ro 1 rfl | exact at_ro 2 rfl | exact at_ro 3 rfl) (by rfl)) (by exact Nat.le_of_ble_eq_true rfl) ?_; refine W.step tab_ok rfl rfl ?_) | (refine W.isStore ?_; refine W.store tab_ok rfl (by first | exact Upd.here | exact (Upd.there Upd.here) | exact (Upd.there (Upd.there Upd.here)) | exact (Upd.there (Upd.there (Upd.there Upd.here))) | exact (Upd.there (Upd.there (Upd.there (Upd.there Upd.here)))) | exact (Upd.there (Upd.there (Upd.there (Upd.there (Upd.there Upd.here))))) | exact (Upd.there (Upd.there (Upd.there (Upd.there (Upd.there (Upd.there Upd.here)))))) | exact (Upd.there (Upd.there (Upd.there (Upd.there (Upd.there (Upd.there (Upd.there Upd.here))))))) | exact (Upd.there (Upd.there (Upd.there (Upd.there (Upd.there (Upd.there (Upd.there (Upd.there Upd.here)))))))) | exact (Upd.there (Upd.there (Upd.there (Upd.there (Upd.there (Upd.there (Upd.there (Upd.there (Upd.there Upd.here))))))))) | exact (Upd.there (Upd.there (Upd.there (Upd.there (Upd.there (Upd.there (Upd.there (Upd.there (Upd.there (Upd.there Upd.here)))))))))) | exact (Upd.there (Upd.there (Upd.there (Upd.there (Upd.there (Upd.there (Upd.there (Upd.there (Upd.there (Upd.there (Upd.there Upd.here)))))))))))) rfl rfl rfl rfl rfl (by rfl) ?_; refine W.step tab_ok rfl rfl ?_) | (refine W.isNew ?_; refine W.new tab_ok rfl rfl (by exact Nat.le_of_ble_eq_true rfl) ?_; intro _; refine W.step tab_ok rfl rfl ?_) | (refine W.isBox ?_; refine W.box rfl rfl (by exact Nat.le_of_ble_eq_true rfl) ?_; intro _; refine W.step tab_ok rfl rfl ?_))
  refine W.val (OpVal.front tab_ok rfl rfl rfl rfl rfl (Nat.le_trans hi hc)) (by exact Nat.le_of_ble_eq_true rfl) (W.step tab_ok rfl rfl ?_)
  refine W.loop (fun m ρ1 L1 => ∃ (j : Nat) (s : Int), j ≤ i ∧ s = tot val (ps.take j) ∧ m = i - j ∧ ρ1 = [(17, .int .i64 (j : Int)), (16, .int .i64 (i : Int)), (15, .slice (some ⟨bl, 0, none⟩) i cap), (2, .func (.func g) #[] #[]), (7, .int .i64 s)] ∧ L1 = []) _ _ _ (by repeat (first | exact trivial | refine ⟨rfl, ?_⟩)) (by repeat (first | exact Sel.nil | (apply Sel.cons; (repeat (first | exact Pick.here | apply Pick.there))))) (⟨0, 0, Nat.zero_le _, rfl, rfl, rfl, rfl⟩) ?_
  rintro m ρ1 L1 ⟨j, s, hj, hs, rfl, rfl, rfl⟩
  refine W.step tab_ok rfl rfl ?_
  by_cases hlt : j < i
  · refine W.iteT rfl (by simp; omega) (W.step tab_ok rfl rfl ?_)
    have hjn : j < ps.length := by omega
    obtain ⟨bj, Hj, g1, g2, g3⟩ := hps.get hjn
    have hld := ptr_at hl hjn g1
    have hnx := tot_next val hjn
    have hb := tot_bound val (ps := ps.take j) (fun p hp => hv p (hok p (List.mem_of_mem_take hp)))
    have hb2 := hv _ (hok _ (List.getElem_mem hjn))
    have hcall := hg _ _ _ g2 (hok _ (List.getElem_mem hjn))
    rw [← hs] at hb hnx
    have hlen : (ps.take j).length ≤ 1000 := by simp; omega
    generalize val ps[j] = x at hnx hb2 hcall
    refine W.val (OpVal.ixSl tab_ok rfl rfl rfl rfl rfl hlt) (by exact Nat.le_of_ble_eq_true rfl) (W.step tab_ok rfl rfl ?_)
    refine W.val (OpVal.load tab_ok rfl (at_ro 1 rfl) hld) (by exact Nat.le_of_ble_eq_true rfl) (W.step tab_ok rfl rfl ?_)
    refine W.call rfl rfl rfl rfl (hcall) (by repeat (first | exact Sel.nil | (apply Sel.cons; (repeat (first | exact Pick.here | apply Pick.there))))) (RoIn.all (fun p hp => List.mem_cons_of_mem _ (List.mem_cons_of_mem _ (g3 p hp)))) (by exact Nat.le_of_ble_eq_true rfl) ?_
    rintro _ _ ⟨rfl, rfl⟩
    refine W.step tab_ok rfl rfl ?_
    refine W.val (OpVal.add rfl rfl (i64_in _ (by omega))) (by exact Nat.le_of_ble_eq_true rfl) (W.step tab_ok rfl rfl ?_)
    refine W.val (OpVal.add rfl rfl (i64_in _ (by omega))) (by exact Nat.le_of_ble_eq_true rfl) (W.step tab_ok rfl rfl ?_)
    refine W.rnd _ _ (by repeat (first | exact trivial | refine ⟨rfl, ?_⟩)) (by repeat (first | exact Sel.nil | (apply Sel.cons; (repeat (first | exact Pick.here | apply Pick.there))))) (⟨i - (j + 1), by omega, j + 1, _, by omega, hnx.symm, rfl, rfl, rfl⟩)
  · refine W.iteF rfl (by simp; omega) (W.step tab_ok rfl rfl ?_)
    have : j = i := by omega
    subst this
    refine W.ret (fin _ _ (FinOk.mk' ([]) (.tmp rfl .nil) (by repeat (first | exact Sel.nil | (apply Sel.cons; (repeat (first | exact Pick.here | apply Pick.there))))) rfl ?_))
    exact ⟨by rw [hs]; rfl, rfl⟩
def flen (p : Pt) : Int := (p.fs.length : Int)
theorem flen_ok {p : Pt} (h : p.Ok) : 0 ≤ flen p ∧ flen p ≤ 64 := by unfold flen; have := h.2; omega
theorem Frames_spec (ps : List Pt) (hok : ∀ p ∈ ps, p.Ok) (hn : ps.length ≤ 1000) (b : Nat) (H : HL) (ha : ArAt ps b H) :
    Ctr Try.prog 17 [.pointer (some ⟨b, 0, none⟩)] [] H (fun v L' => v = .int .i64 (tot flen ps) ∧ L' = []) := by
  have hL := ALen_spec ps b H ha
  have hS := sum_spec 25 flen (fun p b H hp _ => PLen_spec p b H hp) (fun p h => flen_ok h) ps hok hn b H ha ps.length (Nat.le_refl _)
  refine Ctr.enter (n := 7) [.tmp 2] [(0, _)] Try.func17 rfl rfl rfl (Nat.le_of_ble_eq_true rfl) Try.call17 ⟨rfl, trivial⟩ ?_
  intro cx fin fin0
  refine W.step tab_ok rfl rfl ?_
  refine W.call rfl rfl rfl rfl (hL) (by repeat (first | exact Sel.nil | (apply Sel.cons; (repeat (first | exact Pick.here | apply Pick.there))))) (by repeat (first | exact RoIn.nil | exact RoIn.same | refine RoIn.cons (by first | exact at_own 0 rfl | exact at_own 1 rfl | exact at_own 2 rfl | exact at_own 3 rfl | exact at_own 4 rfl | exact at_own 5 rfl | exact at_own 6 rfl | exact at_own 7 rfl | exact at_own 8 rfl | exact at_own 9 rfl | exact at_own 10 rfl | exact at_own 11 rfl | exact at_ro 0 rfl | exact at_ro 1 rfl | exact at_ro 2 rfl | exact at_ro 3 rfl | exact at_ro 4 rfl | exact at_ro 5 rfl) ?_ | refine RoIn.append ?_ ?_ | exact RoIn.own 0 rfl | exact RoIn.own 1 rfl | exact RoIn.own 2 rfl | exact RoIn.own 3 rfl | exact RoIn.own 4 rfl | exact RoIn.own 5 rfl | exact RoIn.own 6 rfl | exact RoIn.own 7 rfl | exact RoIn.own 8 rfl | exact RoIn.own 9 rfl | exact RoIn.own 10 rfl | exact RoIn.own 11 rfl | (intro p hp; simp [hp]; done))) (by exact Nat.le_of_ble_eq_true rfl) ?_
  rintro _ _ ⟨rfl, rfl⟩
  refine W.step tab_ok rfl rfl ?_
  refine W.call rfl rfl rfl rfl (hS) (by repeat (first | exact Sel.nil | (apply Sel.cons; (repeat (first | exact Pick.here | apply Pick.there))))) (by repeat (first | exact RoIn.nil | exact RoIn.same | refine RoIn.cons (by first | exact at_own 0 rfl | exact at_own 1 rfl | exact at_own 2 rfl | exact at_own 3 rfl | exact at_own 4 rfl | exact at_own 5 rfl | exact at_own 6 rfl | exact at_own 7 rfl | exact at_own 8 rfl | exact at_own 9 rfl | exact at_own 10 rfl | exact at_own 11 rfl | exact at_ro 0 rfl | exact at_ro 1 rfl | exact at_ro 2 rfl | exact at_ro 3 rfl | exact at_ro 4 rfl | exact at_ro 5 rfl) ?_ | refine RoIn.append ?_ ?_ | exact RoIn.own 0 rfl | exact RoIn.own 1 rfl | exact RoIn.own 2 rfl | exact RoIn.own 3 rfl | exact RoIn.own 4 rfl | exact RoIn.own 5 rfl | exact RoIn.own 6 rfl | exact RoIn.own 7 rfl | exact RoIn.own 8 rfl | exact RoIn.own 9 rfl | exact RoIn.own 10 rfl | exact RoIn.own 11 rfl | (intro p hp; simp [hp]; done))) (by exact Nat.le_of_ble_eq_true rfl) ?_
  rintro _ _ ⟨rfl, rfl⟩
  refine W.step tab_ok rfl rfl ?_
  refine W.ret (fin _ _ (FinOk.mk' ([]) (.tmp rfl .nil) (by repeat (first | exact Sel.nil | (apply Sel.cons; (repeat (first | exact Pick.here | apply Pick.there))))) rfl ?_))
  exact ⟨by rw [List.take_length]; rfl, rfl⟩
def startOf (ps : List Pt) (i : Int) : Int := if 0 ≤ i ∧ i < ps.length then tot flen (ps.take i.toNat) else 0
theorem Start_spec (ps : List Pt) (hok : ∀ p ∈ ps, p.Ok) (hn : ps.length ≤ 1000) (b : Nat) (H : HL) (ha : ArAt ps b H) (i : Int) :
    Ctr Try.prog 18 [.pointer (some ⟨b, 0, none⟩), .int .i64 i] [] H (fun v L' => v = .int .i64 (startOf ps i) ∧ L' = []) := by
  have hI := ain_spec ps b H ha i
  refine Ctr.enter (n := 12) [.tmp 4] [(0, _), (1, _)] Try.func18 rfl rfl rfl (Nat.le_of_ble_eq_true rfl) Try.call18 ⟨rfl, rfl, trivial⟩ ?_
  intro cx fin fin0
  refine W.step tab_ok rfl rfl ?_
  refine W.call rfl rfl rfl rfl (hI) (by repeat (first | exact Sel.nil | (apply Sel.cons; (repeat (first | exact Pick.here | apply Pick.there))))) (by repeat (first | exact RoIn.nil | exact RoIn.same | refine RoIn.cons (by first | exact at_own 0 rfl | exact at_own 1 rfl | exact at_own 2 rfl | exact at_own 3 rfl | exact at_own 4 rfl | exact at_own 5 rfl | exact at_own 6 rfl | exact at_own 7 rfl | exact at_own 8 rfl | exact at_own 9 rfl | exact at_own 10 rfl | exact at_own 11 rfl | exact at_ro 0 rfl | exact at_ro 1 rfl | exact at_ro 2 rfl | exact at_ro 3 rfl | exact at_ro 4 rfl | exact at_ro 5 rfl) ?_ | refine RoIn.append ?_ ?_ | exact RoIn.own 0 rfl | exact RoIn.own 1 rfl | exact RoIn.own 2 rfl | exact RoIn.own 3 rfl | exact RoIn.own 4 rfl | exact RoIn.own 5 rfl | exact RoIn.own 6 rfl | exact RoIn.own 7 rfl | exact RoIn.own 8 rfl | exact RoIn.own 9 rfl | exact RoIn.own 10 rfl | exact RoIn.own 11 rfl | (intro p hp; simp [hp]; done))) (by exact Nat.le_of_ble_eq_true rfl) ?_
  rintro _ _ ⟨rfl, rfl⟩
  refine W.step tab_ok rfl rfl ?_
  by_cases h : 0 ≤ i ∧ i < ps.length
  · refine W.iteF rfl (by simp [h]) (W.step tab_ok rfl rfl ?_)
    obtain ⟨j, rfl⟩ : ∃ j : Nat, i = (j : Int) := ⟨i.toNat, by omega⟩
    have hS := sum_spec 25 flen (fun p b H hp _ => PLen_spec p b H hp) (fun p h => flen_ok h) ps hok hn b H ha j (by omega)
    refine W.call rfl rfl rfl rfl (hS) (by repeat (first | exact Sel.nil | (apply Sel.cons; (repeat (first | exact Pick.here | apply Pick.there))))) (by repeat (first | exact RoIn.nil | exact RoIn.same | refine RoIn.cons (by first | exact at_own 0 rfl | exact at_own 1 rfl | exact at_own 2 rfl | exact at_own 3 rfl | exact at_own 4 rfl | exact at_own 5 rfl | exact at_own 6 rfl | exact at_own 7 rfl | exact at_own 8 rfl | exact at_own 9 rfl | exact at_own 10 rfl | exact at_own 11 rfl | exact at_ro 0 rfl | exact at_ro 1 rfl | exact at_ro 2 rfl | exact at_ro 3 rfl | exact at_ro 4 rfl | exact at_ro 5 rfl) ?_ | refine RoIn.append ?_ ?_ | exact RoIn.own 0 rfl | exact RoIn.own 1 rfl | exact RoIn.own 2 rfl | exact RoIn.own 3 rfl | exact RoIn.own 4 rfl | exact RoIn.own 5 rfl | exact RoIn.own 6 rfl | exact RoIn.own 7 rfl | exact RoIn.own 8 rfl | exact RoIn.own 9 rfl | exact RoIn.own 10 rfl | exact RoIn.own 11 rfl | (intro p hp; simp [hp]; done))) (by exact Nat.le_of_ble_eq_true rfl) ?_
    rintro _ _ ⟨rfl, rfl⟩
    refine W.step tab_ok rfl rfl ?_
    refine W.ret (fin _ _ (FinOk.mk' ([]) (.tmp rfl .nil) (by repeat (first | exact Sel.nil | (apply Sel.cons; (repeat (first | exact Pick.here | apply Pick.there))))) rfl ?_))
    exact ⟨by simp only [pack, startOf, if_pos h, Int.toNat_natCast], rfl⟩
  · refine W.iteT rfl (by simp [h]) (W.step tab_ok rfl rfl ?_)
    refine W.ret (fin _ _ (FinOk.mk' ([]) (.tmp rfl .nil) (by repeat (first | exact Sel.nil | (apply Sel.cons; (repeat (first | exact Pick.here | apply Pick.there))))) rfl ?_))
    exact ⟨by simp only [pack, startOf, if_neg h], rfl⟩
theorem Part_spec (ps : List Pt) (b : Nat) (H : HL) (bs : List Nat) (bl cap : Nat) (l : List Value) (Hp : HL) (hH : H = (b, .cells #[.slice (some ⟨bl, 0, none⟩) ps.length cap] 86 (0, 0)) :: (bl, .cells (List.toArray l) 37 (0, 0)) :: Hp)
    (hc : ps.length ≤ cap) (hl : l.take ps.length = ptrs bs) (hps : PtsAt ps bs Hp) (i : Int) :
    Ctr Try.prog 23 [.pointer (some ⟨b, 0, none⟩), .int .i64 i] [] H (fun v L' => v = .pointer (if 0 ≤ i ∧ i < ps.length then (bs[i.toNat]?).map fun b => ⟨b, 0, none⟩ else none) ∧ L' = []) := by
  have hI := ain_spec ps b H ⟨bs, bl, l, cap, Hp, hH, hc, hl, hps⟩ i
  subst hH
  refine Ctr.enter (n := 16) [.tmp 4] [(0, _), (1, _)] Try.func23 rfl rfl rfl (Nat.le_of_ble_eq_true rfl) Try.call23 ⟨rfl, rfl, trivial⟩ ?_
  intro cx fin fin0
  refine W.step tab_ok rfl rfl ?_
  refine W.call rfl rfl rfl rfl (hI) (by repeat (first | exact Sel.nil | (apply Sel.cons; (repeat (first | exact Pick.here | apply Pick.there))))) (by repeat (first | exact RoIn.nil | exact RoIn.same | refine RoIn.cons (by first | exact at_own 0 rfl | exact at_own 1 rfl | exact at_own 2 rfl | exact at_own 3 rfl | exact at_own 4 rfl | exact at_own 5 rfl | exact at_own 6 rfl | exact at_own 7 rfl | exact at_own 8 rfl | exact at_own 9 rfl | exact at_own 10 rfl | exact at_own 11 rfl | exact at_ro 0 rfl | exact at_ro 1 rfl | exact at_ro 2 rfl | exact at_ro 3 rfl | exact at_ro 4 rfl | exact at_ro 5 rfl) ?_ | refine RoIn.append ?_ ?_ | exact RoIn.own 0 rfl | exact RoIn.own 1 rfl | exact RoIn.own 2 rfl | exact RoIn.own 3 rfl | exact RoIn.own 4 rfl | exact RoIn.own 5 rfl | exact RoIn.own 6 rfl | exact RoIn.own 7 rfl | exact RoIn.own 8 rfl | exact RoIn.own 9 rfl | exact RoIn.own 10 rfl | exact RoIn.own 11 rfl | (intro p hp; simp [hp]; done))) (by exact Nat.le_of_ble_eq_true rfl) ?_
  rintro _ _ ⟨rfl, rfl⟩
  refine W.step tab_ok rfl rfl ?_
  by_cases h : 0 ≤ i ∧ i < ps.length
  · refine W.iteF rfl (by simp [h]) (W.step tab_ok rfl rfl ?_)
    obtain ⟨j, rfl⟩ : ∃ j : Nat, i = (j : Int) := ⟨i.toNat, by omega⟩
    have hj : j < ps.length := by omega
    obtain ⟨bj, Hj, g1, g2, g3⟩ := hps.get hj
    have hld := ptr_at hl hj g1
    repeat (first | (refine W.isLoad ?_; refine W.val (OpVal.load tab_ok rfl (by first | exact at_own 0 rfl | exact at_own 1 rfl | exact at_own 2 rfl | exact at_own 3 rfl | exact at_own 4 rfl | exact at_own 5 rfl | exact at_own 6 rfl | exact at_own 7 rfl | exact at_own 8 rfl | exact at_own 9 rfl | exact at_own 10 rfl | exact at_own 11 rfl | exact at_ro 0 rfl | exact at_ro 1 rfl | exact at_ro 2 rfl | exact at_ro 3 rfl) (by rfl)) (by exact Nat.le_of_ble_eq_true rfl) ?_; refine W.step tab_ok rfl rfl ?_) | (refine W.isStore ?_; refine W.store tab_ok rfl (by first | exact Upd.here | exact (Upd.there Upd.here) | exact (Upd.there (Upd.there Upd.here)) | exact (Upd.there (Upd.there (Upd.there Upd.here))) | exact (Upd.there (Upd.there (Upd.there (Upd.there Upd.here)))) | exact (Upd.there (Upd.there (Upd.there (Upd.there (Upd.there Upd.here))))) | exact (Upd.there (Upd.there (Upd.there (Upd.there (Upd.there (Upd.there Upd.here)))))) | exact (Upd.there (Upd.there (Upd.there (Upd.there (Upd.there (Upd.there (Upd.there Upd.here))))))) | exact (Upd.there (Upd.there (Upd.there (Upd.there (Upd.there (Upd.there (Upd.there (Upd.there Upd.here)))))))) | exact (Upd.there (Upd.there (Upd.there (Upd.there (Upd.there (Upd.there (Upd.there (Upd.there (Upd.there Upd.here))))))))) | exact (Upd.there (Upd.there (Upd.there (Upd.there (Upd.there (Upd.there (Upd.there (Upd.there (Upd.there (Upd.there Upd.here)))))))))) | exact (Upd.there (Upd.there (Upd.there (Upd.there (Upd.there (Upd.there (Upd.there (Upd.there (Upd.there (Upd.there (Upd.there Upd.here)))))))))))) rfl rfl rfl rfl rfl (by rfl) ?_; refine W.step tab_ok rfl rfl ?_) | (refine W.isNew ?_; refine W.new tab_ok rfl rfl (by exact Nat.le_of_ble_eq_true rfl) ?_; intro _; refine W.step tab_ok rfl rfl ?_) | (refine W.isBox ?_; refine W.box rfl rfl (by exact Nat.le_of_ble_eq_true rfl) ?_; intro _; refine W.step tab_ok rfl rfl ?_))
    refine W.val (OpVal.ixSl tab_ok rfl rfl rfl rfl rfl hj) (by exact Nat.le_of_ble_eq_true rfl) (W.step tab_ok rfl rfl ?_)
    refine W.val (OpVal.load tab_ok rfl (at_ro 1 rfl) hld) (by exact Nat.le_of_ble_eq_true rfl) (W.step tab_ok rfl rfl ?_)
    refine W.ret (fin _ _ (FinOk.mk' ([]) (.tmp rfl .nil) (by repeat (first | exact Sel.nil | (apply Sel.cons; (repeat (first | exact Pick.here | apply Pick.there))))) rfl ?_))
    exact ⟨by simp only [pack, if_pos h, Int.toNat_natCast, g1, Option.map_some], rfl⟩
  · refine W.iteT rfl (by simp [h]) (W.step tab_ok rfl rfl ?_)
    refine W.ret (fin _ _ (FinOk.mk' ([]) (.tmp rfl .nil) (by repeat (first | exact Sel.nil | (apply Sel.cons; (repeat (first | exact Pick.here | apply Pick.there))))) rfl ?_))
    exact ⟨by simp only [pack, if_neg h], rfl⟩
end Go.Proofs.Ytdhjmeoppmpilaa
