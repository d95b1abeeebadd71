/-
  What was written is read again, as long as its page is pinned.
-/
import Derived.Test.YtgipjpiiomgjjaaMt
namespace Go.Proofs.Ytgipjpiiomgjjaa
set_option linter.unusedVariables false
open Go Go.Sl Go.IntWalk
set_option maxHeartbeats 8000000
set_option maxRecDepth 20000
theorem victim_get {p : Pt} (j : Nat) (h1 : j < p.fs.length) : ∃ g : Fl, Fl.Keeps g p.fs[j].fl ∧ p.victim.1.fs[j]? = some (p.fs[j].setFl g) := by
  have hlen : (p.victim.1).fs.length = p.fs.length := setAll_len _ _
  have hgl : ((turnFrom p.hand.toNat (2 * p.fs.length) 0 (p.fs.map Fr.fl)).1).length = p.fs.length := by rw [turnFrom_len]; simp
  refine ⟨(turnFrom p.hand.toNat (2 * p.fs.length) 0 (p.fs.map Fr.fl)).1[j]'(by omega), ?_, ?_⟩
  · have := turn_keeps p.hand.toNat (2 * p.fs.length) 0 (p.fs.map Fr.fl) j (by simpa using h1) (by omega)
    simpa using this
  · rw [List.getElem?_eq_getElem (by omega)]
    congr 1
    exact setAll_get _ _ j (by rw [← hlen] at h1; exact h1) h1 (by omega)
/-- Of two frames the first has the page 0, pinned once, with these bytes. -/
structure Kf (B : List Int) (p : Pt) : Prop where
  inv : p.Inv
  len : p.fs.length = 2
  f0 : ∃ f, p.fs[0]? = some f ∧ f.used = true ∧ f.page = 0 ∧ f.pins = 1 ∧ f.b = B
theorem Kf.set1 {B : List Int} {p : Pt} (h : Kf B p) {q : Pt} (hq : q.Inv) (hs : q.fs = p.fs ∨ ∃ j f, j ≠ 0 ∧ q.fs = p.fs.set j f) : Kf B q := by
  rcases hs with e | ⟨j, f, hj, e⟩
  · exact ⟨hq, by rw [e]; exact h.len, by rw [e]; exact h.f0⟩
  · refine ⟨hq, by rw [e, List.length_set]; exact h.len, ?_⟩
    rw [e, List.getElem?_set_ne hj]
    exact h.f0
theorem Kf.load {B : List Int} {p : Pt} (h : Kf B p) (page : Int) {bs : List Int} (hb : u8ok bs) : Kf B (p.load 1 page bs).1 := by
  refine h.set1 (Pt.load_inv h.inv 1 page hb) ?_
  unfold Pt.load
  split
  · split
    · exact .inr ⟨1, _, by decide, rfl⟩
    · exact .inl rfl
  · exact .inl rfl
theorem Kf.at0 {B : List Int} {p : Pt} (h : Kf B p) : ∃ hj : 0 < p.fs.length, p.fs[0].used = true ∧ p.fs[0].page = 0 ∧ p.fs[0].pins = 1 ∧ p.fs[0].b = B := by
  obtain ⟨f, e, h1⟩ := h.f0
  have hj : 0 < p.fs.length := by rw [h.len]; decide
  rw [List.getElem?_eq_getElem hj, Option.some.injEq] at e
  exact ⟨hj, by rw [e]; exact h1⟩
theorem Kf.release {B : List Int} {p : Pt} (h : Kf B p) (i : Int) : Kf B (p.release i).1 := by
  refine h.set1 (Pt.release_inv h.inv i) ?_
  unfold Pt.release
  split
  · exact .inl rfl
  · rename_i hin
    simp only [Decidable.not_not] at hin
    unfold inFr at hin
    split
    · rename_i hp
      refine .inr ⟨i.toNat, _, ?_, rfl⟩
      intro h0
      obtain ⟨hj, h1⟩ := h.at0
      obtain rfl : i = ((0 : Nat) : Int) := by omega
      rw [Pt.at_nat hj, h1.2.2.1] at hp
      omega
    · exact .inl rfl
theorem Kf.not0 {B : List Int} {p : Pt} (h : Kf B p) {page : Int} (hpg : 1 ≤ page) {i : Int} (hg : mget p.tbl page = some i) : ∃ j : Nat, ∃ hj : j < p.fs.length, i = (j : Int) ∧ j ≠ 0 := by
  obtain ⟨j, hj, rfl, hu, hp⟩ := h.inv.tbl page i hg
  refine ⟨j, hj, rfl, ?_⟩
  rintro rfl
  obtain ⟨_, h1⟩ := h.at0
  rw [h1.2.1] at hp
  omega
theorem Kf.page {B : List Int} {p : Pt} (h : Kf B p) {page : Int} (hpg : 1 ≤ page) {g : Fr → Fr × Int} (hk : Keeps (fun f => (g f).1)) : Kf B (p.doPage page g).1 := by
  refine h.set1 (Pt.doPage_inv h.inv page hk) ?_
  cases hg : mget p.tbl page with
  | none => rw [Pt.doPage_none hg]; exact .inl rfl
  | some i =>
    obtain ⟨j, hj, rfl, h0⟩ := h.not0 hpg hg
    rw [Pt.doPage_some hj hg]
    exact .inr ⟨j, _, h0, rfl⟩
theorem Kf.get {B : List Int} {p : Pt} (h : Kf B p) {page : Int} (hpg : 1 ≤ page) (off n : Int) : Kf B (p.get page off n).1 := by
  refine h.set1 (Pt.get_inv h.inv page off n) ?_
  cases hg : mget p.tbl page with
  | none => rw [Pt.get_none hg]; exact .inl rfl
  | some i =>
    obtain ⟨j, hj, rfl, h0⟩ := h.not0 hpg hg
    rw [Pt.get_some hj hg]
    exact .inr ⟨j, _, h0, rfl⟩
theorem Kf.victim {B : List Int} {p : Pt} (h : Kf B p) : Kf B p.victim.1 := by
  obtain ⟨h0, e1, e2, e3, e4⟩ := h.at0
  obtain ⟨g, g1, g2⟩ := victim_get 0 h0
  refine ⟨Pt.victim_inv h.inv, by rw [← h.len]; exact setAll_len _ _, _, g2, ?_, ?_, ?_, ?_⟩
  · show g.used = true
    rw [g1.1]; exact e1
  · exact e2
  · show g.pins = 1
    rw [g1.2.2.1]; exact e3
  · exact e4
theorem Kf.victim1 {B : List Int} {p : Pt} (h : Kf B p) {i : Nat} (hv : p.victim.2 = some i) : i = 1 := by
  obtain ⟨h1, h2⟩ := victim_some h.inv hv
  have hk := h.victim
  obtain ⟨h0, e1, e2, e3, e4⟩ := hk.at0
  have := hk.len
  rcases (show i = 0 ∨ i = 1 by omega) with rfl | rfl
  · rw [Pt.at_nat h0, e3] at h2
    omega
  · rfl
theorem Kf.clean {B : List Int} {p : Pt} (h : Kf B p) {j : Nat} (hj : j < p.fs.length) : Kf B (p.clean (j : Int)).1 := by
  have hi := Pt.clean_inv h.inv (j : Int)
  have e : (p.clean (j : Int)).1.fs = p.fs.set j p.fs[j].clean := by
    unfold Pt.clean
    rw [if_neg (by unfold inFr; omega), Pt.at_nat hj, Int.toNat_natCast]
    rfl
  by_cases h0 : j = 0
  · subst h0
    obtain ⟨_, e1, e2, e3, e4⟩ := h.at0
    refine ⟨hi, by rw [e, List.length_set]; exact h.len, p.fs[0].clean, by rw [e, List.getElem?_set_self hj], e1, e2, e3, e4⟩
  · exact h.set1 hi (.inr ⟨j, _, h0, e⟩)
structure Km (B : List Int) (m : Mc) (p : Pt) : Prop where
  inv : MInv m p
  f : Kf B p
  to : m.op = 1 → m.todo ≠ [] → m.to = 1 ∧ 1 ≤ m.page
theorem Km.begin {B : List Int} {m : Mc} {p : Pt} (h : Km B m p) (ht : m.todo = []) {q : Rq} (hq : q.Ok) (hpg : q.op ≠ 6 ∧ q.op ≠ 8 → 1 ≤ q.page) : Km B (mBegin m p q).1 (mBegin m p q).2.1 := by
  have hi := begin_inv h.inv ht hq.op.1 hq.op.2 hq.u8
  have hop : q.op = 1 ∨ q.op = 2 ∨ q.op = 3 ∨ q.op = 4 ∨ q.op = 5 ∨ q.op = 6 ∨ q.op = 7 ∨ q.op = 8 := by have := hq.op; omega
  have hu := hq.u8
  obtain ⟨qo, qp, qf, ql, qd⟩ := q
  simp only at hop hpg hu
  rcases hop with rfl | rfl | rfl | rfl | rfl | rfl | rfl | rfl
  · have hp1 := hpg (by decide)
    refine ⟨hi, ?_, ?_⟩
    · show Kf B (mFetch ⟨1, qp, m.to, m.todo, m.got⟩ p).2.1
      unfold mFetch
      simp only
      split
      · exact h.f.page hp1 pin_keeps
      · unfold mMiss
        split
        · exact h.f.victim
        · simp only
          split
          · exact h.f.victim.release _
          · exact h.f.victim
    · intro _ hne
      show (mFetch ⟨1, qp, m.to, m.todo, m.got⟩ p).1.to = 1 ∧ 1 ≤ (mFetch ⟨1, qp, m.to, m.todo, m.got⟩ p).1.page
      have hne2 : (mFetch ⟨1, qp, m.to, m.todo, m.got⟩ p).1.todo ≠ [] := hne
      clear hne
      unfold mFetch mMiss at hne2 ⊢
      simp only at hne2 ⊢
      split
      · rename_i h1
        rw [if_pos h1] at hne2
        exact absurd ht hne2
      · rename_i h1
        rw [if_neg h1] at hne2
        cases hv : p.victim.2 with
        | none => rw [hv] at hne2; exact absurd ht hne2
        | some i => rw [h.f.victim1 hv]; exact ⟨rfl, hp1⟩
  · exact ⟨hi, h.f.get (hpg (by decide)) _ _, fun h1 => absurd h1 (by show ¬ (2 : Int) = 1; decide)⟩
  · exact ⟨hi, h.f.page (hpg (by decide)) (put_keeps qf hu), fun h1 => absurd h1 (by show ¬ (3 : Int) = 1; decide)⟩
  · exact ⟨hi, h.f.page (hpg (by decide)) unpin_keeps, fun h1 => absurd h1 (by show ¬ (4 : Int) = 1; decide)⟩
  · exact ⟨hi, h.f, fun h1 => absurd h1 (by show ¬ (5 : Int) = 1; decide)⟩
  · exact ⟨hi, h.f, fun h1 => absurd h1 (by show ¬ (6 : Int) = 1; decide)⟩
  · refine ⟨hi, ?_, fun h1 => absurd h1 (by show ¬ (7 : Int) = 1; decide)⟩
    show Kf B (mDiscard p qp).1
    unfold mDiscard
    split
    · exact h.f
    · exact h.f.release _
  · exact ⟨hi, h.f, fun h1 => absurd h1 (by show ¬ (8 : Int) = 1; decide)⟩
theorem Km.stepF {B : List Int} {m : Mc} {p : Pt} (h : Km B m p) (hne : m.todo ≠ []) (bs : List Int) : Kf B (mStep m p bs).2.1 := by
  unfold mStep
  split
  · rename_i hA
    obtain ⟨j, hj, hg, -⟩ := end_sto h.inv hne hA
    unfold mStored
    rw [hg, Option.getD_some]
    split
    · exact (h.f.clean hj).release _
    · exact h.f.clean hj
  · split <;> exact h.f
theorem Km.end_ {B : List Int} {m : Mc} {p : Pt} (h : Km B m p) (hne : m.todo ≠ []) {bs : List Int} (hu : u8ok bs) (hl : bs.length = 16) : Km B (mEnd m p 0 bs).1 (mEnd m p 0 bs).2.1 := by
  have hi := end_inv h.inv hne 0 hu hl
  have hs := h.stepF hne bs
  obtain ⟨-, g2, -, g4, g5, -⟩ := mStep_inv h.inv hne hu hl
  have g6 : (mStep m p bs).1.to = m.to ∧ (mStep m p bs).1.page = m.page := by
    unfold mStep
    split
    · exact ⟨rfl, rfl⟩
    · split <;> exact ⟨rfl, rfl⟩
  refine ⟨hi, ?_, ?_⟩
  · unfold mEnd
    rw [if_neg (by simp)]
    split
    · exact hs
    · simp only
      split
      · rename_i ho
        obtain ⟨h1, h2⟩ := h.to ho hne
        rw [h1]
        exact (hs.load m.page g2).page h2 pin_keeps
      · exact hs
  · unfold mEnd
    rw [if_neg (by simp)]
    split
    · intro ho _
      rw [g6.1, g6.2]
      exact h.to (by rw [← g4]; exact ho) hne
    · intro ho
      exact absurd ho (by show ¬ Mc.idle.op = 1; decide)
theorem Km.step {B : List Int} {m : Mc} {p : Pt} (h : Km B m p) {q : Rq} (hq : q.Ok) (hpg : q.op ≠ 6 ∧ q.op ≠ 8 → 1 ≤ q.page) : Km B (wStep m p q false).1 (wStep m p q false).2 := by
  unfold wStep
  split
  · rename_i ht
    exact h.begin ht hq hpg
  · rename_i hne
    exact h.end_ hne (fill_ok hq.u8 16) (fill_len _ _)
theorem Km.run {B : List Int} {m : Mc} {p : Pt} (h : Km B m p) {q : Rq} (hq : q.Ok) (hpg : q.op ≠ 6 ∧ q.op ≠ 8 → 1 ≤ q.page) : Km B (wRun m p q).1 (wRun m p q).2 := by
  have h1 := h.step hq hpg
  have key : ∀ k, Km B (wLoop q k (wStep m p q false)).1 (wLoop q k (wStep m p q false)).2 := fun k => by
    induction k with
    | zero => exact h1
    | succ k ih => exact ih.step hq hpg
  exact key _
theorem putb_get {pg bs : List Int} {off : Int} (h : fits pg.length off bs.length = 0) : ((putb pg off bs).drop off.toNat).take bs.length = bs := by
  have := fits_0 h
  unfold putb
  rw [List.append_assoc, List.drop_append, List.drop_of_length_le (by simp; omega), List.nil_append]
  have e : off.toNat - (pg.take off.toNat).length = 0 := by simp; omega
  rw [e, List.drop_zero, List.take_left]
def kq : Rq := ⟨1, 0, 0, 0, []⟩
theorem kq_ok : kq.Ok := ⟨by decide, by decide, ⟨by decide, by decide⟩, ⟨by decide, by decide⟩, nil_u8, by decide⟩
def k1 : Mc × Pt := wRun Mc.idle (Pt.new 2) kq
def kp1 : Pt := ⟨[⟨true, false, true, 1, 0, zeros⟩, Fr.zero], [(0, 0)], 1⟩
theorem k1_is : (wStep Mc.idle (Pt.new 2) kq false).1.todo.length = 2 ∧ k1 = (Mc.idle, kp1) := ⟨rfl, rfl⟩
theorem k1_inv : MInv Mc.idle kp1 := by
  have := wRun_inv (idle_inv (Pt.new_inv (n := 2) (by decide) (by decide))) kq_ok
  have e : wRun Mc.idle (Pt.new 2) kq = (Mc.idle, kp1) := k1_is.2
  rw [e] at this
  exact this
/-- The page with what is written. -/
theorem keep_w {off : Int} {few : List Int} (hu : u8ok few) (hf : fits 32 off few.length = 0) (ho : i64s off) (hl : few.length ≤ 32) :
    (wStep Mc.idle kp1 ⟨3, 0, off, 0, few⟩ false).1.todo.length = 0 ∧ Km (putb zeros off few) (wRun Mc.idle kp1 ⟨3, 0, off, 0, few⟩).1 (wRun Mc.idle kp1 ⟨3, 0, off, 0, few⟩).2 := by
  have hq : (⟨3, 0, off, 0, few⟩ : Rq).Ok := rq_ok (by decide) (by decide) ho ⟨by decide, by decide⟩ hu (by omega)
  have hi := wRun_inv k1_inv hq
  have hs : wStep Mc.idle kp1 ⟨3, 0, off, 0, few⟩ false = (⟨3, 0, 0, [], []⟩, (kp1.doPage 0 fun f => f.put off few).1) := rfl
  have hr : wRun Mc.idle kp1 ⟨3, 0, off, 0, few⟩ = (⟨3, 0, 0, [], []⟩, (kp1.doPage 0 fun f => f.put off few).1) := by
    unfold wRun
    rw [hs]
    rfl
  have hd : (kp1.doPage 0 fun f => f.put off few).1 = kp1.setF 0 ⟨true, true, true, 1, 0, putb zeros off few⟩ := by
    rw [Pt.doPage_some (j := 0) (by decide) rfl]
    show kp1.setF 0 ((⟨true, false, true, 1, 0, zeros⟩ : Fr).put off few).1 = _
    unfold Fr.put
    rw [if_neg (by decide), if_neg (by simp only [hf]; decide)]
  rw [hr] at hi ⊢
  refine ⟨by rw [hs]; rfl, hi, ⟨hi.inv, ?_, ?_⟩, fun h => absurd h (by show ¬ (3 : Int) = 1; decide)⟩
  · show (kp1.doPage 0 fun f => f.put off few).1.fs.length = 2
    rw [hd]; rfl
  · refine ⟨⟨true, true, true, 1, 0, putb zeros off few⟩, ?_, rfl, rfl, rfl, rfl⟩
    show (kp1.doPage 0 fun f => f.put off few).1.fs[0]? = _
    rw [hd]; rfl
theorem keep_r {off : Int} {few : List Int} {m : Mc} {p : Pt} (h : Km (putb zeros off few) m p) (hf : fits 32 off few.length = 0) :
    (mBegin m p ⟨2, 0, off, few.length, []⟩).2.2 = ⟨true, 0, false, few, ⟨0, 0, 0, 1, 0, 0⟩⟩ := by
  obtain ⟨hj, e1, e2, e3, e4⟩ := h.f.at0
  have hg : mget p.tbl 0 = some ((0 : Nat) : Int) := by
    have := h.f.inv.inv 0 hj e1
    rwa [e2] at this
  have hb : putb zeros off few = putb zeros off few := rfl
  have hget : (p.fs[0].get off few.length).2 = (few, 0) := by
    unfold Fr.get
    rw [if_neg (by rw [e3]; decide), if_neg (by rw [hf]; decide), e4, Int.toNat_natCast]
    show (((putb zeros off few).drop off.toNat).take few.length, (0 : Int)) = _
    rw [putb_get (pg := zeros) hf]
  show (mRead p ⟨2, 0, off, few.length, []⟩).2 = _
  unfold mRead
  simp only
  rw [Pt.get_some hj hg]
  simp only [hget]
  rfl
theorem MachineKeeps_spec (bs : List Int) (hb : u8ok bs) (ab : Option Addr) (cb : Nat) (hcb : bs.length ≤ cb) (rb : HL) (hrb : RoSl 1 (u8s bs) ab bs.length rb) (x : Int) (hx : i64s x)
    (qs : List QD) (hqs : ∀ o ∈ qs, QD.Ok o) (a : Option Addr) (c : Nat) (ro : HL) (hro : RoSl 5 (qs.flatMap QD.l) a qs.length ro) :
    Ctr Try.prog 4 [.slice ab bs.length cb, .int .i64 x, .slice a qs.length c] [] (rb ++ (ro ++ qros qs)) (fun v L' => v = .bool true ∧ L' = []) := by
  have hA := Around_spec x 33 hx (by decide)
  have hra := around_range x 33 (by decide)
  have hW := WBegin_spec 2 (by decide) (by decide)
  have hL := Lives_spec
  generalize around x 33 = off at *
  have hFw := Few_spec bs ab cb hcb rb hrb (32 - off) (by omega) (by omega)
  obtain ⟨few, hfew⟩ : ∃ few, few = bs.take (32 - off).toNat := ⟨_, rfl⟩
  rw [← hfew] at hFw
  have hfu : u8ok few := fun y hy => hb y (List.mem_of_mem_take (by rw [← hfew]; exact hy))
  have hfl : few.length ≤ 32 ∧ (few.length : Int) ≤ 32 - off := by
    rw [hfew, List.length_take]
    omega
  have hfit : fits 32 off few.length = 0 := by
    unfold fits
    rw [if_pos rfl, if_neg (by omega)]
  have hoff : i64s off := ⟨by omega, by omega⟩
  have hqw : (⟨3, 0, off, 0, few⟩ : Rq).Ok := rq_ok (by decide) (by decide) hoff ⟨by decide, by decide⟩ hfu (by omega)
  obtain ⟨kw1, kw2⟩ := keep_w hfu hfit hoff hfl.1
  have kwt := wRun_todo Mc.idle kp1 ⟨3, 0, off, 0, few⟩
  clear hfew
  refine Ctr.enter (n := 100) [.tmp 6] [(0, _), (1, _), (2, _)] Try.func4 rfl rfl rfl (lb rfl) Try.call4 ⟨rfl, rfl, rfl, trivial⟩ ?_
  intro cx fin fin0
  refine aG ?_
  repeat (first | refine gx ?_ | refine gN fun _ => ?_ | refine gB fun _ => ?_ | fail)
  refine aC (o := hW) (h := ?_)
  rintro _ _ ⟨b, bm, bp, Hw, Hm, Hp, rfl, rfl, hw⟩
  refine aG ?_
  repeat (first | refine gx ?_ | refine gN fun _ => ?_ | refine gB fun _ => ?_ | fail)
  refine aC (o := hA) (h := ?_)
  rintro _ _ ⟨rfl, rfl⟩
  refine aG ?_
  refine aV (OpVal.sub rfl rfl (i64_in _ (by omega))) ?_
  refine aC (o := hFw) (h := ?_) (hro := RoIn.all (fun q hq => by simp [hq]))
  rintro _ _ ⟨af, cf, Hf, rfl, rfl, hof⟩
  refine aG ?_
  refine aBu (ps := [_]) ?_
  refine aC (o := Run_spec Mc.idle (Pt.new 2) (idle_inv (Pt.new_inv (by decide) (by decide))) rfl b bm bp Hw Hm Hp hw kq kq_ok none 0 [] ⟨rfl, .inl ⟨rfl, rfl⟩⟩) (h := ?_)
  rintro _ _ ⟨Hw1, Hm1, Hp1, rfl, rfl, hw1⟩
  refine aG ?_
  rw [show wRun Mc.idle (Pt.new 2) kq = (Mc.idle, kp1) from k1_is.2] at hw1
  rw [k1_is.1]
  repeat (first | refine gx ?_ | refine gN fun _ => ?_ | refine gB fun _ => ?_ | fail)
  refine aBu (ps := [_, _, _]) ?_
  repeat (first | refine gx ?_ | refine gN fun _ => ?_ | refine gB fun _ => ?_ | fail)
  refine aC (o := Run_spec Mc.idle kp1 k1_inv rfl b bm bp Hw1 Hm1 Hp1 hw1 ⟨3, 0, off, 0, few⟩ hqw af cf Hf (Own.roSl hof)) (h := ?_) (hro := RoIn.own 0 rfl)
  rintro _ _ ⟨Hw2, Hm2, Hp2, rfl, rfl, hw2⟩
  refine aG ?_
  rw [kw1]
  repeat (first | refine gx ?_ | refine gN fun _ => ?_ | refine gB fun _ => ?_ | fail)
  generalize wRun Mc.idle kp1 ⟨3, 0, off, 0, few⟩ = s0 at *
  refine aLp (fun k ρ1 L1 => ∃ (i : Nat) (m : Mc) (p : Pt) (Hw Hm Hp : HL), i ≤ 8 ∧ Km (putb zeros off few) m p ∧ m.todo = [] ∧ WAt m p b bm bp Hw Hm Hp ∧ k = 8 - i ∧ ρ1 = [(10, .int .i64 (i : Int)), (9, .slice af few.length cf), (8, .int .i64 off), (7, .pointer (some ⟨b, 0, none⟩)), (2, .slice a qs.length c)] ∧ L1 = [Hw, Hm, Hp, Hf]) (o := ⟨0, _, _, Hw2, Hm2, Hp2, by decide, kw2, kwt, hw2, rfl, rfl, rfl⟩) (h := ?_)
  clear hw hw1 hw2
  rintro k ρ1 L1 ⟨i, m, p, Hw, Hm, Hp, hi24, hk, ht, hw, rfl, rfl, rfl⟩
  refine aG ?_
  by_cases hc : ((i : Int) < (qs.length : Int)) ∧ (i : Int) < 8
  · obtain ⟨hc1, hc2⟩ := hc
    repeat (first | refine gx ?_ | refine gN fun _ => ?_ | refine gB fun _ => ?_ | fail)
    have hil : i < qs.length := by omega
    obtain ⟨bx, ox, lx, ex, frx, rfl, rfl, hseg, hO, hmem⟩ := row_at hqs hro hil
    generalize qs[i] = o at hseg hO hmem
    have hG := Good_spec o.q hO.inn 4 (by decide) o.b.a o.b.cap o.b.ro hO.ro
    have hq := gq_ok o.q 4 (by decide) hO.u8
    have hpr : 0 ≤ (gq o.q 4).page ∧ (gq o.q 4).page < 4 := by
      have := around_range o.q.page 4 (by decide)
      simp only [gq]
      split <;> omega
    generalize gq o.q 4 = g at *
    obtain ⟨g1, g2, g3, g4, g5⟩ := g
    simp only at hpr
    refine aV (OpVal.ixSl tab_ok rfl rfl rfl rfl rfl hil) ?_
    refine aV (OpVal.loadN ty_25.1 ty_25.2 rfl (show At _ _ bx (.cells lx.toArray ex frx) from .inr (by simp)) hseg) ?_
    refine aC (o := hG) (h := ?_) (hro := RoIn.all (fun q hq => by simp [hmem q hq]))
    rintro _ _ ⟨a5, c5, H5, rfl, rfl, h5⟩
    refine aG ?_
    rcases (show g1 = 6 ∨ (¬ g1 = 6 ∧ g1 = 8) ∨ (¬ g1 = 6 ∧ ¬ g1 = 8) by omega) with h6 | ⟨h6, h8⟩ | ⟨h6, h8⟩
    case' inl =>
      have hq2 := hq
      have hpg : (⟨g1, g2, g3, g4, g5⟩ : Rq).op ≠ 6 ∧ (⟨g1, g2, g3, g4, g5⟩ : Rq).op ≠ 8 → 1 ≤ (⟨g1, g2, g3, g4, g5⟩ : Rq).page := fun h => absurd h6 h.1
      repeat (first | refine gh h6 ?_ | refine gN fun _ => ?_ | refine gB fun _ => ?_ | fail)
    case' inr.inl =>
      have hq2 := hq
      have hpg : (⟨g1, g2, g3, g4, g5⟩ : Rq).op ≠ 6 ∧ (⟨g1, g2, g3, g4, g5⟩ : Rq).op ≠ 8 → 1 ≤ (⟨g1, g2, g3, g4, g5⟩ : Rq).page := fun h => absurd h8 h.2
      repeat (first | refine gh (gc2 h6 h8) ?_ | refine gN fun _ => ?_ | refine gB fun _ => ?_ | fail)
    case' inr.inr =>
      have hq2 : (⟨g1, g2 + 1, g3, g4, g5⟩ : Rq).Ok := ⟨hq.op, by show 0 ≤ g2 + 1; omega, hq.off, hq.len, hq.u8, hq.dl⟩
      have hpg : (⟨g1, g2 + 1, g3, g4, g5⟩ : Rq).op ≠ 6 ∧ (⟨g1, g2 + 1, g3, g4, g5⟩ : Rq).op ≠ 8 → 1 ≤ (⟨g1, g2 + 1, g3, g4, g5⟩ : Rq).page := fun _ => by show 1 ≤ g2 + 1; omega
      repeat (first | refine gh (gc2 h6 h8) ?_ | refine gN fun _ => ?_ | refine gB fun _ => ?_ | fail)
      refine aV (OpVal.add rfl rfl (i64_in _ (by dsimp only; omega))) ?_
      repeat (first | refine gh (gc2 h6 h8) ?_ | refine gN fun _ => ?_ | refine gB fun _ => ?_ | fail)
    all_goals
      have hR := Run_spec m p hk.inv ht b bm bp Hw Hm Hp hw _ hq2 a5 c5 H5 h5
      have hk2 := hk.run hq2 hpg
      have ht2 := wRun_todo m p
      refine aC (o := hR) (h := ?_) (hro := RoIn.own 1 rfl)
      rintro _ _ ⟨Hw3, Hm3, Hp3, rfl, rfl, hw3⟩
      refine aG ?_
      have hs0 : ∀ st : Nat, ¬ (st : Int) < 0 := fun st => by omega
      repeat (first | refine gh hs0 ?_ | refine gN fun _ => ?_ | refine gB fun _ => ?_ | fail)
      refine W.order [0, 0, 0, 2] rfl ?_
      refine aR (o := ⟨8 - (i + 1), by omega, i + 1, _, _, _, _, _, by omega, hk2, ht2 _, hw3, rfl, rfl, rfl⟩)
  · have hrd := keep_r hk hfit
    have hB := fun Hm1 hm1 Hp1 hp1 => Begin_spec m bm bp Hm1 hm1 p hk.inv.inv Hp1 hp1 ⟨2, 0, off, few.length, []⟩ (show (1 : Int) ≤ 2 by decide) (show (2 : Int) ≤ 8 by decide) hoff none 0 [] ⟨rfl, .inl ⟨rfl, rfl⟩⟩
    obtain ⟨a9, c9, r9, at9, ct9, rt9, ag9, cg9, rg9, D9, rfl, k2, k3, k4, k5, k6, k7, k8, km, kp⟩ := hw
    rcases (show ¬ ((i : Int) < (qs.length : Int)) ∨ (((i : Int) < (qs.length : Int)) ∧ ¬ (i : Int) < 8) by omega) with hx | ⟨hx1, hx2⟩
    all_goals
      refine split2 rfl ?_
      refine aG ?_
      repeat (first | refine gx ?_ | refine gN fun _ => ?_ | refine gB fun _ => ?_ | fail)
      refine aBu (ps := [_, _, _]) ?_
      refine aC (o := hB _ km _ kp) (h := ?_)
      rintro _ _ ⟨ar, nr, cr, Hm4, Hp4, Hd, rfl, rfl, g1, g2, g3, g4⟩
      refine aG ?_
      rw [hrd]
      rw [hrd] at g3 g4
      repeat (first | refine gx ?_ | refine gN fun _ => ?_ | refine gB fun _ => ?_ | fail)
      refine aV (OpVal.bytesStr tab_ok rfl rfl rfl rfl g3 (fun q hq => .inl (by simp [hq]))) ?_
      repeat (first | refine gx ?_ | refine gN fun _ => ?_ | refine gB fun _ => ?_ | fail)
      refine aV (OpVal.bytesStr tab_ok rfl rfl rfl rfl (Own.roSl hof) (fun q hq => .inl (by simp [hq]))) ?_
      repeat (first | refine gx ?_ | refine gN fun _ => ?_ | refine gB fun _ => ?_ | fail)
      refine aV (OpVal.eqStr rfl rfl) ?_
      repeat (first | refine gx ?_ | refine gN fun _ => ?_ | refine gB fun _ => ?_ | fail)
      refine aBu (ps := [_]) ?_
      repeat (first | refine gx ?_ | refine gN fun _ => ?_ | refine gB fun _ => ?_ | fail)
      refine aV (eqC ⟨0, 0, 0, 1, 0, 0⟩ rfl rfl) ?_
      repeat (first | refine gx ?_ | refine gN fun _ => ?_ | refine gB fun _ => ?_ | fail)
      refine aC (o := hL) (h := ?_) (hro := RoIn.nil)
      rintro _ _ ⟨rfl, rfl⟩
      refine aG ?_
      repeat (first | refine gx ?_ | refine gN fun _ => ?_ | refine gB fun _ => ?_ | fail)
      refine W.ret (fin _ _ (FinOk.mk' ([]) (.tmp rfl .nil) (by repeat (first | exact Sel.nil | (apply Sel.cons; (repeat (first | exact Pick.here | apply Pick.there))))) rfl ?_))
      exact ⟨rfl, rfl⟩
end Go.Proofs.Ytgipjpiiomgjjaa
