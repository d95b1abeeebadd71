/-
  What a Barrier or a Crash leaves, sector by sector.
-/
import Derived.Test.YtpimbaphenignaaVw
namespace Go.Proofs.Ytpimbaphenignaa
open Go Go.Sl
set_option linter.unusedVariables false
theorem settle1_at {d : Dv} (hd : d.Ok) {i j : Int} (hi : d.in_ i) (hj : 0 ≤ j) (k : Bool) :
    (d.settle1 i k).late j = (if i = j then [] else d.late j) ∧ (d.settle1 i k).last j = (if i = j then (if k = true then d.late i else d.last j) else d.last j) ∧ (d.settle1 i k).lasts.length = d.lasts.length ∧ (d.settle1 i k).later.length = d.later.length := by
  have hi' : 0 ≤ i ∧ i < d.later.length := by rw [hd.len]; exact hi
  unfold Dv.settle1
  cases k with
  | true =>
    refine ⟨?_, ?_, by simp [Dv.setLater, Dv.setLast], by simp [Dv.setLater, Dv.setLast]⟩
    · have : ((d.setLast i (d.late i)).setLater i []).late j = if i = j then [] else d.late j := getD_set hi' hj
      exact this
    · have : ((d.setLast i (d.late i)).setLater i []).last j = if i = j then d.late i else d.last j := getD_set hi hj
      rw [if_pos rfl, this]
      by_cases h : i = j
      · rw [if_pos h, if_pos h, if_pos rfl]
      · rw [if_neg h, if_neg h]
  | false =>
    refine ⟨?_, ?_, by simp [Dv.setLater], by simp [Dv.setLater]⟩
    · have : (d.setLater i []).late j = if i = j then [] else d.late j := getD_set hi' hj
      exact this
    · by_cases h : i = j
      · rw [if_pos h, if_neg (by decide), if_neg (by decide)]; rfl
      · rw [if_neg h, if_neg (by decide)]; rfl
/-- What is not settled stays; what is settled has nothing later. -/
theorem settle_at {σ : Type} (step : σ → σ × Bool) : ∀ (l : List Int) (s : Dv × σ), s.1.Ok → Still s.1 l → ∀ j, 0 ≤ j → (settle step s l).1.late j = (if j ∈ l then [] else s.1.late j) ∧ (j ∉ l → (settle step s l).1.last j = s.1.last j) ∧ (settle step s l).1.lasts.length = s.1.lasts.length
  | [], s, hd, hs, j, hj => ⟨by rw [if_neg (by simp)]; rfl, fun _ => rfl, rfl⟩
  | i :: l, s, hd, hs, j, hj => by
    have h1 := hs.all i List.mem_cons_self
    have h2 := settle1_at hd h1.1 hj (step s.2).2
    have h3 := settle_at step l (settleF step s i) (settle1_ok hd h1.1 h1.2) (hs.step hd _) j hj
    have e : settle step s (i :: l) = settle step (settleF step s i) l := rfl
    rw [e]
    obtain ⟨g1, g2, g3, g4⟩ := h2
    obtain ⟨k1, k2, k3⟩ := h3
    refine ⟨?_, fun hn => ?_, k3.trans g3⟩
    · rw [k1]
      show (if j ∈ l then [] else (s.1.settle1 i (step s.2).2).late j) = _
      rw [g1]
      by_cases hl : j ∈ l
      · rw [if_pos hl, if_pos (List.mem_cons_of_mem _ hl)]
      · rw [if_neg hl]
        by_cases hij : i = j
        · rw [if_pos hij, if_pos (by rw [hij]; exact List.mem_cons_self)]
        · rw [if_neg hij, if_neg (fun h => (List.mem_cons.1 h).elim (fun h => hij h.symm) hl)]
    · rw [k2 (fun h => hn (List.mem_cons_of_mem _ h))]
      show (s.1.settle1 i (step s.2).2).last j = _
      rw [g2, if_neg (fun h => hn (by rw [h]; exact List.mem_cons_self))]
theorem mem_laterIn {d : Dv} {f t j : Int} : j ∈ d.laterIn f t ↔ (0 ≤ j ∧ j < d.lasts.length) ∧ f ≤ j ∧ j < t ∧ d.late j ≠ [] := by
  unfold Dv.laterIn
  simp only [List.mem_filter, List.mem_map, List.mem_range, decide_eq_true_eq]
  constructor
  · rintro ⟨⟨n, hn, rfl⟩, h⟩
    exact ⟨⟨by simp, by simp; omega⟩, h⟩
  · rintro ⟨⟨h1, h2⟩, h⟩
    exact ⟨⟨j.toNat, by omega, by simp; omega⟩, h⟩
/-- Behind what is done to a range: no sector without is another, and nothing is later within. -/
theorem settled {σ : Type} (step : σ → σ × Bool) (s : Dv × σ) (hd : s.1.Ok) (f t : Int) (d2 : Dv) (h2 : (settle step s (s.1.laterIn f t)).1 = d2) :
    (∀ j : Int, 0 ≤ j → j < s.1.lasts.length → ¬ (f ≤ j ∧ j < t) → d2.read j = s.1.read j ∧ d2.lasting j = s.1.lasting j) ∧ d2.laterIn f t = [] ∧ d2.lasts.length = s.1.lasts.length := by
  have hA := settle_at step (s.1.laterIn f t) s hd (laterIn_still _ _ _)
  rw [h2] at hA
  have hlen : d2.lasts.length = s.1.lasts.length := (hA 0 (by decide)).2.2
  refine ⟨fun j h0 hj hn => ?_, ?_, hlen⟩
  · obtain ⟨g1, g2, -⟩ := hA j h0
    have hnm : j ∉ s.1.laterIn f t := fun h => hn ⟨(mem_laterIn.1 h).2.1, (mem_laterIn.1 h).2.2.1⟩
    rw [if_neg hnm] at g1
    have g3 := g2 hnm
    have i1 : s.1.in_ j := ⟨h0, hj⟩
    have i2 : d2.in_ j := ⟨h0, by rw [hlen]; exact hj⟩
    constructor
    · unfold Dv.read; rw [if_pos i1, if_pos i2, g1, g3]
    · unfold Dv.lasting; rw [if_pos i1, if_pos i2, g3]
  · rw [List.eq_nil_iff_forall_not_mem]
    intro j hj
    obtain ⟨⟨h0, h1⟩, h3, h4, h5⟩ := mem_laterIn.1 hj
    obtain ⟨g1, -, -⟩ := hA j h0
    by_cases hm : j ∈ s.1.laterIn f t
    · rw [if_pos hm] at g1; exact h5 g1
    · rw [if_neg hm] at g1
      rw [g1] at h5
      exact hm (mem_laterIn.2 ⟨⟨h0, by omega⟩, h3, h4, h5⟩)
def outN {σ : Type} (step : σ → σ × Bool) : Nat → σ → Bool
  | 0, s => (step s).2
  | p + 1, s => outN step p (step s).1
theorem outN_all : ∀ p, outN allB p () = true
  | 0 => rfl
  | p + 1 => outN_all p
theorem outN_next : ∀ p keep, outN nextB p keep = keep.getD p false
  | 0, [] => rfl
  | 0, x :: l => rfl
  | p + 1, [] => by show outN nextB p [] = false; rw [outN_next p []]; rfl
  | p + 1, x :: l => by show outN nextB p l = l.getD p false; exact outN_next p l
theorem settle_last {σ : Type} (step : σ → σ × Bool) : ∀ (l : List Int) (s : Dv × σ), s.1.Ok → Still s.1 l → ∀ p (hp : p < l.length), (settle step s l).1.last l[p] = if outN step p s.2 = true then s.1.late l[p] else s.1.last l[p]
  | [], s, hd, hs, p, hp => by simp at hp
  | i :: l, s, hd, hs, 0, hp => by
    have h1 := hs.all i List.mem_cons_self
    have e : settle step s (i :: l) = settle step (settleF step s i) l := rfl
    have hn : i ∉ l := (List.nodup_cons.1 hs.nd).1
    have h3 := (settle_at step l (settleF step s i) (settle1_ok hd h1.1 h1.2) (hs.step hd _) i h1.1.1).2.1 hn
    rw [e]
    show (settle step (settleF step s i) l).1.last i = if (step s.2).2 = true then s.1.late i else s.1.last i
    rw [h3]
    show (s.1.settle1 i (step s.2).2).last i = _
    rw [(settle1_at hd h1.1 h1.1.1 (step s.2).2).2.1, if_pos rfl]
  | i :: l, s, hd, hs, p + 1, hp => by
    have h1 := hs.all i List.mem_cons_self
    have e : settle step s (i :: l) = settle step (settleF step s i) l := rfl
    have hp' : p < l.length := by simpa using hp
    have hne : i ≠ l[p] := fun h => (List.nodup_cons.1 hs.nd).1 (by rw [h]; exact List.getElem_mem hp')
    have hj := hs.all l[p] (List.mem_cons_of_mem _ (List.getElem_mem hp'))
    have h3 := settle_last step l (settleF step s i) (settle1_ok hd h1.1 h1.2) (hs.step hd _) p hp'
    have h4 := settle1_at hd h1.1 hj.1.1 (step s.2).2
    rw [e]
    show (settle step (settleF step s i) l).1.last l[p] = if outN step p (step s.2).1 = true then s.1.late l[p] else s.1.last l[p]
    rw [h3]
    show (if outN step p (step s.2).1 = true then (s.1.settle1 i (step s.2).2).late l[p] else (s.1.settle1 i (step s.2).2).last l[p]) = _
    rw [h4.1, h4.2.1, if_neg hne, if_neg hne]
theorem laterTo_pre (d : Dv) (f t : Int) (n : Nat) : ∀ k, ∃ r, laterTo d f t (n + k) = laterTo d f t n ++ r
  | 0 => ⟨[], by simp⟩
  | k + 1 => by
    obtain ⟨r, hr⟩ := laterTo_pre d f t n k
    rw [← Nat.add_assoc, laterTo_next, hr]
    exact ⟨_, List.append_assoc _ _ _⟩
/-- Where a sector stands among those that have something later. -/
theorem later_pos {d : Dv} (h6 : d.lasts.length = 6) {j : Nat} (hj : j < 6) (hl : d.late j ≠ []) : ∃ hp : (laterTo d 0 6 j).length < (d.laterIn 0 6).length, (d.laterIn 0 6)[(laterTo d 0 6 j).length] = (j : Int) := by
  have e : laterTo d 0 6 6 = d.laterIn 0 6 := by unfold laterTo Dv.laterIn; rw [h6]
  obtain ⟨r, hr⟩ := laterTo_pre d 0 6 (j + 1) (5 - j)
  rw [show j + 1 + (5 - j) = 6 by omega, e, laterTo_next, if_pos ⟨by omega, by omega, hl⟩] at hr
  have hg : (d.laterIn 0 6)[(laterTo d 0 6 j).length]? = some (j : Int) := by
    rw [hr, List.append_assoc, List.getElem?_append_right (Nat.le_refl _), Nat.sub_self]
    rfl
  obtain ⟨hp, hv⟩ := List.getElem?_eq_some_iff.1 hg
  exact ⟨hp, hv⟩
def lateOf (x : List Int) : List Int := if x = [] then [] else sealB x
def dvL (xs : List (List Int)) : Dv := ⟨List.replicate 6 zcell, xs.map lateOf, []⟩
structure XsOk (xs : List (List Int)) : Prop where
  len : xs.length = 6
  all : ∀ x ∈ xs, x = [] ∨ (x.length = 16 ∧ u8ok x)
theorem dvL_ok {xs : List (List Int)} (h : XsOk xs) : (dvL xs).Ok :=
  ⟨by simp [dvL, h.len], by simp [dvL], fun c hc => by rw [List.eq_of_mem_replicate hc]; exact ⟨zcell_len, zcell_ok⟩, fun c hc => by
    obtain ⟨x, hx, rfl⟩ := List.mem_map.1 hc
    unfold lateOf
    rcases h.all x hx with rfl | ⟨h1, h2⟩
    · exact .inl rfl
    · rw [if_neg (fun h0 => by rw [h0] at h1; cases h1)]
      exact .inr ⟨by rw [sealB_len, h1], sealB_ok h2⟩, (by intro b hb; cases hb), by show ([] : List Int).length ≤ 100000; decide⟩
theorem dvL_late {xs : List (List Int)} {j : Nat} (hj : j < xs.length) : (dvL xs).late j = lateOf xs[j] := by
  unfold Dv.late dvL
  simp only [Int.toNat_natCast]
  rw [List.getD_eq_getElem?_getD, List.getElem?_map, List.getElem?_eq_getElem hj]
  rfl
theorem dvL_last {xs : List (List Int)} {j : Nat} (hj : j < 6) : (dvL xs).last j = zcell := by
  unfold Dv.last dvL
  simp only [Int.toNat_natCast]
  rw [List.getD_eq_getElem?_getD, List.getElem?_replicate, if_pos hj]
  rfl
theorem dvL_write {xs : List (List Int)} (h : XsOk xs) {i : Nat} (hi : i < 6) {own : List Int} (ho : own.length = 16) : (dvL xs).write i own = (dvL (xs.set i own), 0) := by
  unfold Dv.write
  rw [if_pos ⟨by omega, by show (i : Int) < ((List.replicate 6 zcell).length : Int); simp; omega⟩, if_pos ho]
  unfold dvL Dv.setLater
  simp only [Int.toNat_natCast]
  rw [List.map_set]
  have : lateOf own = sealB own := by unfold lateOf; rw [if_neg (fun h0 => by rw [h0] at ho; cases ho)]
  rw [this]
theorem XsOk.set {xs : List (List Int)} (h : XsOk xs) (i : Nat) {own : List Int} (ho : own.length = 16) (hu : u8ok own) : XsOk (xs.set i own) :=
  ⟨by rw [List.length_set, h.len], fun x hx => by
    rcases List.mem_or_eq_of_mem_set hx with h1 | rfl
    · exact h.all x h1
    · exact .inr ⟨ho, hu⟩⟩
/-- What is to be in a sector: its bytes, if they were kept. -/
def wantB (x : List Int) (kept : Bool) : List Int := if x = [] then List.replicate 16 0 else if kept = true then x else List.replicate 16 0
theorem lasts_one {xs : List (List Int)} (h : XsOk xs) {σ : Type} (step : σ → σ × Bool) (s : σ) {j : Nat} (hj : j < xs.length) :
    ((settle step (dvL xs, s) ((dvL xs).laterIn 0 6)).1.late j = []) ∧ cOpen ((settle step (dvL xs, s) ((dvL xs).laterIn 0 6)).1.last j) = (wantB xs[j] (outN step (laterTo (dvL xs) 0 6 j).length s), 0) := by
  have hok := dvL_ok h
  have hs := laterIn_still (dvL xs) 0 6
  have hj6 : j < 6 := by have := h.len; omega
  have hA := settle_at step ((dvL xs).laterIn 0 6) (dvL xs, s) hok hs (j : Int) (by omega)
  have hx := h.all _ (List.getElem_mem hj)
  have hl := dvL_late hj
  by_cases h0 : xs[j] = []
  · have hl0 : (dvL xs).late j = [] := by rw [hl, h0]; rfl
    have hn : (j : Int) ∉ (dvL xs).laterIn 0 6 := fun hm => (mem_laterIn.1 hm).2.2.2 hl0
    refine ⟨by rw [hA.1, if_neg hn]; exact hl0, ?_⟩
    rw [hA.2.1 hn]
    show cOpen ((dvL xs).last j) = _
    rw [dvL_last hj6]
    unfold wantB
    rw [if_pos h0]
    exact cOpen_z
  · have h16 : xs[j].length = 16 := by rcases hx with h1 | h1; exact absurd h1 h0; exact h1.1
    have hl1 : (dvL xs).late j = sealB xs[j] := by rw [hl]; unfold lateOf; rw [if_neg h0]
    have hne : (dvL xs).late j ≠ [] := by rw [hl1]; exact sealB_ne _
    have hm : (j : Int) ∈ (dvL xs).laterIn 0 6 := mem_laterIn.2 ⟨⟨by omega, by show (j : Int) < ((List.replicate 6 zcell).length : Int); simp; omega⟩, by omega, by omega, hne⟩
    obtain ⟨hp, hv⟩ := later_pos (d := dvL xs) (by simp [dvL]) hj6 hne
    have hL := settle_last step ((dvL xs).laterIn 0 6) (dvL xs, s) hok hs _ hp
    rw [hv] at hL
    refine ⟨by rw [hA.1, if_pos hm], ?_⟩
    rw [hL]
    unfold wantB
    rw [if_neg h0]
    by_cases hk : outN step (laterTo (dvL xs) 0 6 j).length s = true
    · rw [if_pos hk, if_pos hk]
      show cOpen ((dvL xs).late j) = _
      rw [hl1]
      exact cOpen_seal h16
    · rw [if_neg hk, if_neg hk]
      show cOpen ((dvL xs).last j) = _
      rw [dvL_last hj6]
      exact cOpen_z
/-- Behind the Barrier, if there is one, and the crash. -/
theorem lasts_law {xs : List (List Int)} (h : XsOk xs) (bar : Bool) (keep : List Bool) : ∃ D : Dv, (((if bar = true then (dvL xs).barrier 0 6 else dvL xs).crash 0 6 keep).1 = D) ∧ D.laterIn 0 6 = [] ∧
    ∀ j (hj : j < xs.length), D.read j = (wantB xs[j] (bar || keep.getD (laterTo (dvL xs) 0 6 j).length false), 0) ∧ D.lasting j = (wantB xs[j] (bar || keep.getD (laterTo (dvL xs) 0 6 j).length false), 0) := by
  have hok := dvL_ok h
  have key : ∀ {σ : Type} (step : σ → σ × Bool) (s : σ) (D : Dv), (settle step (dvL xs, s) ((dvL xs).laterIn 0 6)).1 = D → ∀ j (hj : j < xs.length), D.read j = (wantB xs[j] (outN step (laterTo (dvL xs) 0 6 j).length s), 0) ∧ D.lasting j = (wantB xs[j] (outN step (laterTo (dvL xs) 0 6 j).length s), 0) := fun step s D hD j hj => by
    obtain ⟨h1, h2⟩ := lasts_one h step s hj
    have h3 := (settled step (dvL xs, s) hok 0 6 D hD).2.2
    rw [hD] at h1 h2
    have hi : D.in_ j := ⟨by omega, by rw [h3]; show (j : Int) < ((List.replicate 6 zcell).length : Int); have := h.len; simp; omega⟩
    constructor
    · unfold Dv.read; rw [if_pos hi, if_pos h1, h2]
    · unfold Dv.lasting; rw [if_pos hi, h2]
  cases bar with
  | true =>
    obtain ⟨-, g2, -⟩ := settled allB (dvL xs, ()) hok 0 6 _ rfl
    refine ⟨(dvL xs).barrier 0 6, ?_, g2, fun j hj => ?_⟩
    · rw [if_pos rfl]
      show (settle nextB ((dvL xs).barrier 0 6, keep) (((dvL xs).barrier 0 6).laterIn 0 6)).1 = _
      rw [show ((dvL xs).barrier 0 6).laterIn 0 6 = [] from g2]
      rfl
    · have := key allB () _ rfl j hj
      rw [outN_all] at this
      exact this
  | false =>
    refine ⟨_, rfl, (settled nextB (dvL xs, keep) hok 0 6 _ rfl).2.1, fun j hj => ?_⟩
    have := key nextB keep _ rfl j hj
    rw [outN_next] at this
    rw [Bool.false_or]
    exact this
end Go.Proofs.Ytpimbaphenignaa
