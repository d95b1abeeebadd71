/-
  One partition of an arena taken out and put back; Clear; how many are used.
-/
import Derived.Test.YtdhjmeoppmpilaaAf
import Derived.Test.YtdhjmeoppmpilaaPr
import Derived.Test.YtdhjmeoppmpilaaAe
namespace Go.Proofs.Ytdhjmeoppmpilaa
open Go Go.Sl Go.IntWalk
set_option maxHeartbeats 4000000
set_option maxRecDepth 20000
theorem PtsAt.focus : ∀ {ps : List Pt} {bs : List Nat} {H : HL} {i : Nat} (hi : i < ps.length), PtsAt ps bs H →
    ∃ b H1 Hi H2, bs[i]? = some b ∧ H = H1 ++ (Hi ++ H2) ∧ PtAt ps[i] b Hi ∧ ∀ p' Hi', PtAt p' b Hi' → PtsAt (ps.set i p') bs (H1 ++ (Hi' ++ H2))
  | [], _, _, _, hi, _ => absurd hi (by simp)
  | p :: ps, bs, H, 0, hi, h => by
    obtain ⟨b, bs', Hp, H', rfl, rfl, h1, h2⟩ := h
    exact ⟨b, [], Hp, H', rfl, rfl, h1, fun p' Hi' hp' => ⟨b, bs', Hi', H', rfl, rfl, hp', h2⟩⟩
  | p :: ps, bs, H, i + 1, hi, h => by
    obtain ⟨b, bs', Hp, H', rfl, rfl, h1, h2⟩ := h
    obtain ⟨b2, H1, Hi, H2, g1, rfl, g2, g3⟩ := PtsAt.focus (i := i) (by simpa using hi) h2
    exact ⟨b2, Hp ++ H1, Hi, H2, by simpa using g1, by simp, by simpa using g2, fun p' Hi' hp' => ⟨b, bs', Hp, _, rfl, by simp, h1, g3 p' Hi' hp'⟩⟩
/-- The arena, with the row of its pointers. -/
def ArL (ps : List Pt) (bs : List Nat) (bl cap : Nat) (l : List Value) (b : Nat) (H : HL) : Prop := ∃ Hp, H = (b, .cells #[.slice (some ⟨bl, 0, none⟩) ps.length cap] 86 (0, 0)) :: (bl, .cells (List.toArray l) 37 (0, 0)) :: Hp ∧
  ps.length ≤ cap ∧ l.take ps.length = ptrs bs ∧ PtsAt ps bs Hp
theorem ArAt.l {ps : List Pt} {b : Nat} {H : HL} (h : ArAt ps b H) : ∃ bs bl cap l, ArL ps bs bl cap l b H := by
  obtain ⟨bs, bl, l, cap, Hp, h1, h2, h3, h4⟩ := h
  exact ⟨bs, bl, cap, l, Hp, h1, h2, h3, h4⟩
theorem ArL.at {ps : List Pt} {bs : List Nat} {bl cap : Nat} {l : List Value} {b : Nat} {H : HL} (h : ArL ps bs bl cap l b H) : ArAt ps b H := by
  obtain ⟨Hp, h1, h2, h3, h4⟩ := h
  exact ⟨bs, bl, l, cap, Hp, h1, h2, h3, h4⟩
theorem ArL.focus {ps : List Pt} {bs : List Nat} {bl cap : Nat} {l : List Value} {b : Nat} {H : HL} (h : ArL ps bs bl cap l b H) {i : Nat} (hi : i < ps.length) :
    ∃ bi Ho Hi H2, bs[i]? = some bi ∧ H = Ho ++ (Hi ++ H2) ∧ PtAt ps[i] bi Hi ∧ ∀ p' Hi', PtAt p' bi Hi' → ArL (ps.set i p') bs bl cap l b (Ho ++ (Hi' ++ H2)) := by
  obtain ⟨Hp, rfl, h2, h3, h4⟩ := h
  obtain ⟨bi, H1, Hi, H2, g1, rfl, g2, g3⟩ := h4.focus hi
  refine ⟨bi, (b, .cells #[.slice (some ⟨bl, 0, none⟩) ps.length cap] 86 (0, 0)) :: (bl, .cells (List.toArray l) 37 (0, 0)) :: H1, Hi, H2, g1, rfl, g2, fun p' Hi' hp' => ⟨H1 ++ (Hi' ++ H2), ?_, by simpa using h2, by simpa using h3, g3 p' Hi' hp'⟩⟩
  rw [List.length_set]
  rfl
theorem ArL.part {ps : List Pt} {bs : List Nat} {bl cap : Nat} {l : List Value} {b : Nat} {H : HL} (h : ArL ps bs bl cap l b H) {i bi : Nat} (hi : i < ps.length) (hb : bs[i]? = some bi) :
    Ctr Try.prog 23 [.pointer (some ⟨b, 0, none⟩), .int .i64 (i : Int)] [] H (fun v L' => v = .pointer (some ⟨bi, 0, none⟩) ∧ L' = []) := by
  obtain ⟨Hp, h1, h2, h3, h4⟩ := h
  have := Part_spec ps b H bs bl cap l Hp h1 h2 h3 h4 (i : Int)
  rw [if_pos (by omega), Int.toNat_natCast, hb] at this
  exact this
theorem AClear_spec (ps : List Pt) (hok : ∀ p ∈ ps, p.Ok) (hn : ps.length ≤ 1000) (b : Nat) (H : HL) (ha : ArAt ps b H) :
    Ctr Try.prog 34 [.pointer (some ⟨b, 0, none⟩)] [H] [] (fun _ L' => ∃ H', L' = [H'] ∧ ArAt (ps.map Pt.clear) b H') := by
  obtain ⟨bs, bl, cap, l, hl⟩ := ha.l
  have hH : (b, .cells #[.slice (some ⟨bl, 0, none⟩) ps.length cap] 86 (0, 0)) ∈ H := by obtain ⟨Hp, rfl, _⟩ := hl; simp
  refine Ctr.enter (n := 16) [] [(0, _)] Try.func34 rfl rfl rfl (Nat.le_of_ble_eq_true rfl) Try.call34 ⟨rfl, trivial⟩ ?_
  intro cx fin fin0
  refine W.step tab_ok rfl rfl ?_
  refine W.val (OpVal.load tab_ok rfl (at_in 0 rfl hH) rfl) (by exact Nat.le_of_ble_eq_true rfl) (W.step tab_ok rfl rfl ?_)
  refine W.loop (fun k ρ1 L1 => ∃ (j : Nat) (H' : HL), j ≤ ps.length ∧ ArL ((ps.take j).map Pt.clear ++ ps.drop j) bs bl cap l b H' ∧ k = ps.length - j ∧ ρ1 = [(9, .int .i64 (j : Int)), (8, .int .i64 (ps.length : Int)), (7, .slice (some ⟨bl, 0, none⟩) ps.length cap)] ∧ L1 = [H']) _ _ _ (by repeat (first | exact trivial | refine ⟨rfl, ?_⟩)) (by repeat (first | exact Sel.nil | (apply Sel.cons; (repeat (first | exact Pick.here | apply Pick.there))))) (⟨0, H, Nat.zero_le _, by simpa using hl, rfl, rfl, rfl⟩) ?_
  rintro k ρ1 L1 ⟨j, H', hj, hl', rfl, rfl, rfl⟩
  refine W.step tab_ok rfl rfl ?_
  by_cases hlt : j < ps.length
  · refine W.iteT rfl (by simp; omega) (W.step tab_ok rfl rfl ?_)
    have hlen : ((ps.take j).map Pt.clear ++ ps.drop j).length = ps.length := by simp; omega
    have hjq : j < ((ps.take j).map Pt.clear ++ ps.drop j).length := by omega
    have hget : ((ps.take j).map Pt.clear ++ ps.drop j)[j] = ps[j] := by
      rw [List.getElem_append_right (by simp; omega)]
      simp [Nat.min_eq_left hj]
    have hset : ∀ p', ((ps.take j).map Pt.clear ++ ps.drop j).set j p' = (ps.take j).map Pt.clear ++ (p' :: ps.drop (j + 1)) := by
      intro p'
      have e1 : ((ps.take j).map Pt.clear).length = j := by simp; omega
      rw [List.set_append_right _ _ (by omega), e1, Nat.sub_self, List.drop_eq_getElem_cons hlt, List.set_cons_zero]
    have hnx : (ps.take j).map Pt.clear ++ (ps[j].clear :: ps.drop (j + 1)) = (ps.take (j + 1)).map Pt.clear ++ ps.drop (j + 1) := by
      rw [List.take_add_one, List.getElem?_eq_getElem hlt, Option.toList_some, List.map_append, List.map_cons, List.map_nil, List.append_assoc]; rfl
    obtain ⟨bi, Ho, Hi, H2, g1, rfl, g2, g3⟩ := hl'.focus hjq
    rw [hget] at g2
    have g4 := g3 ps[j].clear
    rw [hset, hnx] at g4
    have hcl := Clear_spec ps[j] (hok _ (List.getElem_mem hlt)) bi Hi g2
    have hpt : (bl, .cells (List.toArray l) 37 (0, 0)) ∈ Ho ++ (Hi ++ H2) ∧ l[0 + j * 1]? = some (.pointer (some ⟨bi, 0, none⟩)) := by
      obtain ⟨Hp, e, _, h3, _⟩ := hl'
      rw [e]
      exact ⟨by simp, ptr_at h3 (by omega) g1⟩
    generalize ps[j].clear = pc at hcl g4
    refine W.val (OpVal.ixSl tab_ok rfl rfl rfl rfl rfl hlt) (by exact Nat.le_of_ble_eq_true rfl) (W.step tab_ok rfl rfl ?_)
    refine W.val (OpVal.load tab_ok rfl (at_in 0 rfl hpt.1) hpt.2) (by exact Nat.le_of_ble_eq_true rfl) (W.step tab_ok rfl rfl ?_)
    refine W.split3 rfl ?_
    refine W.step tab_ok rfl rfl ?_
    refine W.call rfl rfl rfl rfl (hcl) (by repeat (first | exact Sel.nil | (apply Sel.cons; (repeat (first | exact Pick.here | apply Pick.there))))) (by repeat (first | exact RoIn.nil | exact RoIn.same | refine RoIn.cons (by first | exact at_own 0 rfl | exact at_own 1 rfl | exact at_own 2 rfl | exact at_own 3 rfl | exact at_own 4 rfl | exact at_own 5 rfl | exact at_own 6 rfl | exact at_own 7 rfl | exact at_own 8 rfl | exact at_own 9 rfl | exact at_own 10 rfl | exact at_own 11 rfl | exact at_ro 0 rfl | exact at_ro 1 rfl | exact at_ro 2 rfl | exact at_ro 3 rfl | exact at_ro 4 rfl | exact at_ro 5 rfl) ?_ | refine RoIn.append ?_ ?_ | exact RoIn.own 0 rfl | exact RoIn.own 1 rfl | exact RoIn.own 2 rfl | exact RoIn.own 3 rfl | exact RoIn.own 4 rfl | exact RoIn.own 5 rfl | exact RoIn.own 6 rfl | exact RoIn.own 7 rfl | exact RoIn.own 8 rfl | exact RoIn.own 9 rfl | exact RoIn.own 10 rfl | exact RoIn.own 11 rfl | (intro p hp; simp [hp]; done))) (by exact Nat.le_of_ble_eq_true rfl) ?_
    rintro _ _ ⟨Hi', rfl, hpc⟩
    refine W.step tab_ok rfl rfl ?_
    refine W.groupV [1, 0, 0] rfl ?_
    refine W.val (OpVal.add rfl rfl (i64_in _ (by omega))) (by exact Nat.le_of_ble_eq_true rfl) (W.step tab_ok rfl rfl ?_)
    refine W.rnd _ _ (by repeat (first | exact trivial | refine ⟨rfl, ?_⟩)) (by repeat (first | exact Sel.nil | (apply Sel.cons; (repeat (first | exact Pick.here | apply Pick.there))))) (⟨ps.length - (j + 1), by omega, j + 1, _, by omega, g4 _ hpc, rfl, rfl, rfl⟩)
  · refine W.iteF rfl (by simp; omega) (W.step tab_ok rfl rfl ?_)
    have hjn : j = ps.length := by omega
    subst hjn
    rw [List.take_length, List.drop_length, List.append_nil] at hl'
    refine fin0 _ _ (FinOk.first 1 .nil rfl ?_)
    exact ⟨_, rfl, hl'.at⟩
/-! Sums over the partitions -/
theorem tot_sum (g : Pt → Int) (ps : List Pt) : tot g ps = (ps.map g).sum := by
  unfold tot
  have : ∀ (ps : List Pt) (a : Int), ps.foldl (fun a p => a + g p) a = a + (ps.map g).sum := by
    intro ps
    induction ps with
    | nil => intro a; simp
    | cons p ps ih => intro a; simp only [List.foldl_cons, ih, List.map_cons, List.sum_cons]; omega
  rw [this]; omega
theorem tot_set (g : Pt → Int) : ∀ (ps : List Pt) (i : Nat) (hi : i < ps.length) (p' : Pt), tot g (ps.set i p') = tot g ps - g ps[i] + g p'
  | [], _, hi, _ => absurd hi (by simp)
  | p :: ps, 0, _, p' => by rw [tot_sum, tot_sum]; simp only [List.set_cons_zero, List.map_cons, List.sum_cons, List.getElem_cons_zero]; omega
  | p :: ps, i + 1, hi, p' => by
    have ih := tot_set g ps i (by simpa using hi) p'
    rw [tot_sum, tot_sum] at ih ⊢
    simp only [List.set_cons_succ, List.map_cons, List.sum_cons, List.getElem_cons_succ]
    omega
theorem tot_nonneg (g : Pt → Int) {ps : List Pt} (h : ∀ p ∈ ps, 0 ≤ g p) : 0 ≤ tot g ps ∧ (tot g ps = 0 ↔ ∀ p ∈ ps, g p = 0) := by
  rw [tot_sum]
  induction ps with
  | nil => simp
  | cons p ps ih =>
    have h1 := h p (by simp)
    have h2 := ih (fun q hq => h q (by simp [hq]))
    simp only [List.map_cons, List.sum_cons, List.forall_mem_cons]
    refine ⟨by omega, ⟨fun h3 => ⟨by omega, h2.2.1 (by omega)⟩, fun ⟨h3, h4⟩ => ?_⟩⟩
    have := h2.2.2 h4
    omega
theorem empty_used {p : Pt} (hi : p.Inv) : emptyN p = 0 ↔ usedN p = 0 := by
  have e1 : emptyN p = 0 ↔ p.empty = true := by unfold emptyN; split <;> simp_all
  rw [e1]
  unfold Pt.empty usedN
  rw [List.all_eq_true]
  constructor
  · intro h
    have : p.fs.filter (·.used) = [] := by
      rw [List.filter_eq_nil_iff]
      intro f hf hu
      have := (eqFr_iff _ _).1 (h f hf)
      rw [this] at hu
      cases hu
    rw [this]; rfl
  · intro h f hf
    have h2 : p.fs.filter (·.used) = [] := List.eq_nil_of_length_eq_zero (by omega)
    rw [List.filter_eq_nil_iff] at h2
    have h3 := h2 f hf
    rw [eqFr_iff]
    exact hi.emp f hf (by simpa using h3)
theorem used_set {fs : List Fr} {k : Nat} (hk : k < fs.length) {f : Fr} (hu : f.used = true) : (((fs.set k f).filter (·.used)).length : Int) = ((fs.filter (·.used)).length : Int) + (if fs[k].used = true then 0 else 1) := by
  rw [← List.countP_eq_length_filter, ← List.countP_eq_length_filter, List.countP_set hk]
  by_cases h : fs[k].used = true
  · have : 0 < fs.countP (·.used) := List.countP_pos_iff.2 ⟨fs[k], List.getElem_mem hk, h⟩
    simp only [h, hu, if_true]
    omega
  · simp only [h, hu, if_true]
    simp
/-- Which frames are used, told by their numbers; each used one has its number as its page. -/
structure Marked (ys : List Int) (us : List Bool) (ps : List Pt) : Prop where
  len : ps.length = ys.length
  inv : ∀ t (h : t < ps.length), ps[t].Inv
  fl : ∀ t (h : t < ps.length), ∃ h2 : t < ys.length, (ps[t].fs.length : Int) = ys[t]
  mark : ∀ t (h : t < ps.length) k (hk : k < ps[t].fs.length), ps[t].fs[k].used = us.getD ((isum (ys.take t)).toNat + k) false ∧ (ps[t].fs[k].used = true → ps[t].fs[k].page = isum (ys.take t) + k)
theorem Marked.next {ys : List Int} {us : List Bool} {ps : List Pt} (hm : Marked ys us ps) (hp : ∀ n ∈ ys, 0 ≤ n) {t k : Nat} (ht : t < ps.length) (hk : k < ps[t].fs.length) {n : Nat} (hn : (n : Int) = isum (ys.take t) + k) (hu : n < us.length) :
    (ps[t].load (k : Int) (n : Int) zeros).2 = 0 ∧ Marked ys (us.set n true) (ps.set t (ps[t].load (k : Int) (n : Int) zeros).1) ∧ tot usedN (ps.set t (ps[t].load (k : Int) (n : Int) zeros).1) = tot usedN ps + (if us.getD n false = true then 0 else 1) := by
  have hi := hm.inv t ht
  have hmay : ps[t].mayLoad (k : Int) (n : Int) = true := by
    unfold Pt.mayLoad
    simp only [Bool.and_eq_true, decide_eq_true_eq]
    refine ⟨⟨by omega, by omega⟩, ?_⟩
    cases hg : mget ps[t].tbl (n : Int) with
    | none => rfl
    | some i =>
      obtain ⟨j, hj, rfl, h1, h2⟩ := hi.tbl _ _ hg
      have h3 := (hm.mark t ht j hj).2 h1
      simp only [decide_eq_true_eq]
      omega
  have hl : ps[t].load (k : Int) (n : Int) zeros = (⟨ps[t].fs.set k (Fr.load n zeros), mput (ps[t].forget k).tbl n k, ps[t].hand⟩, 0) := by
    unfold Pt.load
    rw [if_pos hmay, if_pos (by decide), Int.toNat_natCast]
  have hinv := Pt.load_inv hi (k : Int) (n : Int) zeros_ok
  have hs0 : 0 ≤ isum (ys.take t) := by have := isum_mono hp (Nat.zero_le t) (by rw [← hm.len]; omega); simpa [isum] using this
  have hnt : (isum (ys.take t)).toNat + k = n := by omega
  refine ⟨by rw [hl], ?_, ?_⟩
  · rw [hl] at hinv ⊢
    dsimp only at hinv ⊢
    have hlen : (ps.set t ⟨ps[t].fs.set k (Fr.load n zeros), mput (ps[t].forget k).tbl n k, ps[t].hand⟩).length = ps.length := List.length_set
    refine ⟨by rw [hlen, hm.len], fun t' h => ?_, fun t' h => ?_, fun t' h k' hk' => ?_⟩
    · rw [List.getElem_set]
      split
      · exact hinv
      · exact hm.inv t' (by omega)
    · obtain ⟨h2, h3⟩ := hm.fl t' (by omega)
      refine ⟨h2, ?_⟩
      rw [List.getElem_set]
      split
      · rename_i e; subst e; simpa using h3
      · exact h3
    · have ht' : t' < ps.length := by omega
      by_cases e : t = t'
      · subst e
        simp only [List.getElem_set_self, List.length_set] at hk' ⊢
        have h0 := hm.mark t ht k' hk'
        by_cases e2 : k = k'
        · subst e2
          simp only [List.getElem_set_self]
          refine ⟨?_, fun _ => hn⟩
          rw [hnt, List.getD_eq_getElem?_getD, List.getElem?_set_self hu]
          rfl
        · simp only [List.getElem_set_ne e2]
          refine ⟨?_, h0.2⟩
          rw [h0.1, List.getD_eq_getElem?_getD, List.getD_eq_getElem?_getD, List.getElem?_set_ne (by omega)]
      · have hq : (ps.set t ⟨ps[t].fs.set k (Fr.load n zeros), mput (ps[t].forget k).tbl n k, ps[t].hand⟩)[t'] = ps[t'] := List.getElem_set_ne e _
        simp only [hq] at hk' ⊢
        have h0 := hm.mark t' ht' k' hk'
        refine ⟨?_, h0.2⟩
        rw [h0.1, List.getD_eq_getElem?_getD, List.getD_eq_getElem?_getD, List.getElem?_set_ne ?_]
        intro e3
        obtain ⟨a1, a2⟩ := hm.fl t ht
        obtain ⟨b1, b2⟩ := hm.fl t' ht'
        have c1 := isum_next a1
        have c2 := isum_next b1
        have hs1 : 0 ≤ isum (ys.take t') := by have := isum_mono hp (Nat.zero_le t') (by omega); simpa [isum] using this
        exact e (in_one hp a1 b1 (x := n) (by omega) (by omega) (by omega) (by omega))
  · rw [tot_set _ _ _ ht, hl]
    have h1 := used_set hk (f := Fr.load n zeros) rfl
    have h0 := (hm.mark t ht k hk).1
    rw [hnt] at h0
    unfold usedN at *
    simp only [h1]
    rw [h0]
    omega
end Go.Proofs.Ytdhjmeoppmpilaa
