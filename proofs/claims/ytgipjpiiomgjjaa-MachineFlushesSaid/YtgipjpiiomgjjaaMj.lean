/-
  What stays so while a machine runs: plain.
-/
import Derived.Test.YtgipjpiiomgjjaaMi
namespace Go.Proofs.Ytgipjpiiomgjjaa
set_option linter.unusedVariables false
open Go Go.Sl Go.IntWalk
set_option maxHeartbeats 4000000
set_option maxRecDepth 20000
def lds (t : List Io) : Nat := (t.filter fun x => decide (x.1 = 1)).length
structure MInv (m : Mc) (p : Pt) : Prop where
  inv : p.Inv
  u8 : u8ok m.got
  idle : m.todo = [] → m.got = []
  room : m.got.length + 16 * lds m.todo ≤ 32
  sto : ∀ x ∈ m.todo, x.1 = 2 → (x.2.2 = 0 ∨ x.2.2 = 1) ∧ ∃ j : Nat, j < p.fs.length ∧ mget p.tbl x.2.1 = some (j : Int) ∧ (m.op = 1 → (p.at_ j).pins = 0)
  one : m.op = 1 → ∀ l x r, m.todo = l ++ x :: r → x.1 = 2 → x.2.2 = 1 → ∀ y ∈ r, y.1 ≠ 2
theorem MInv.same {m m' : Mc} {p p' : Pt} (hp : p'.Inv) (ht : m'.todo = []) (hg : m'.got = []) : MInv m' p' :=
  ⟨hp, by rw [hg]; (intro b hb; cases hb), fun _ => hg, by rw [hg, ht]; decide, (by rw [ht]; intro x hx; cases hx), by rw [ht]; intro _ l x r h; simp at h⟩
theorem idle_inv {p : Pt} (hp : p.Inv) : MInv Mc.idle p := MInv.same (m := Mc.idle) (p := p) hp rfl rfl
theorem mem_pages {k : Int} {ps : List Int} {x : Io} (h : x ∈ pages k ps) : x.1 = k ∧ x.2.1 ∈ ps ∧ (x.2.2 = 0 ∨ x.2.2 = 1) := by
  unfold pages at h
  obtain ⟨q, hq, hx⟩ := List.mem_flatMap.1 h
  simp only [both, List.mem_cons, List.not_mem_nil, or_false] at hx
  rcases hx with rfl | rfl
  · exact ⟨rfl, hq, .inl rfl⟩
  · exact ⟨rfl, hq, .inr rfl⟩
theorem lds_pages2 (ps : List Int) : lds (pages 2 ps) = 0 := by
  unfold lds
  rw [List.filter_eq_nil_iff.2]
  · rfl
  · intro x hx
    rw [(mem_pages hx).1]
    decide
theorem lds_append (a b : List Io) : lds (a ++ b) = lds a + lds b := by unfold lds; simp
theorem dirty_used {p : Pt} (hi : p.Inv) {j : Nat} (hj : j < p.fs.length) (hd : p.fs[j].dirty = true) : p.fs[j].used = true := by
  by_cases hu : p.fs[j].used = true
  · exact hu
  · have := hi.emp _ (List.getElem_mem hj) (by simpa using hu)
    rw [this] at hd
    cases hd
theorem mem_dpgs {p : Pt} (hi : p.Inv) {g : Fr → Bool} {x : Int} (h : x ∈ dpgs p.fs g) : ∃ j : Nat, j < p.fs.length ∧ mget p.tbl x = some (j : Int) := by
  unfold dpgs at h
  obtain ⟨f, hf, rfl⟩ := List.mem_map.1 h
  obtain ⟨hf1, hf2⟩ := List.mem_filter.1 hf
  obtain ⟨j, hj, rfl⟩ := List.getElem_of_mem hf1
  simp only [Bool.and_eq_true] at hf2
  exact ⟨j, hj, hi.inv j hj (dirty_used hi hj hf2.1)⟩
theorem flush_inv {m : Mc} {p : Pt} (hi : p.Inv) (hop : m.op ≠ 1) (hg : m.got = []) (ds : List Int) (hds : ∀ x ∈ ds, ∃ j : Nat, j < p.fs.length ∧ mget p.tbl x = some (j : Int)) : MInv { m with todo := planFlush ds } p := by
  refine ⟨hi, by rw [hg]; (intro b hb; cases hb), fun h => hg, ?_, fun x hx hk => ?_, fun h => absurd h hop⟩
  · simp only
    rw [hg]
    unfold planFlush
    rw [lds_append, lds_pages2]
    decide
  · simp only [planFlush, List.mem_append, List.mem_cons, List.not_mem_nil, or_false] at hx
    rcases hx with hx | rfl
    · obtain ⟨h1, h2, h3⟩ := mem_pages hx
      obtain ⟨j, hj, h4⟩ := hds _ h2
      exact ⟨h3, j, hj, h4, fun h => absurd h hop⟩
    · exact absurd hk (by decide)
theorem begin_inv {m : Mc} {p : Pt} (h : MInv m p) (ht : m.todo = []) {q : Rq} (h1 : 1 ≤ q.op) (h8 : q.op ≤ 8) (hu : u8ok q.data) : MInv (mBegin m p q).1 (mBegin m p q).2.1 := by
  have hi := h.inv
  have hg := h.idle ht
  have hop : q.op = 1 ∨ q.op = 2 ∨ q.op = 3 ∨ q.op = 4 ∨ q.op = 5 ∨ q.op = 6 ∨ q.op = 7 ∨ q.op = 8 := by omega
  obtain ⟨qo, qp, qf, ql, qd⟩ := q
  simp only at hop hu
  rcases hop with rfl | rfl | rfl | rfl | rfl | rfl | rfl | rfl
  · show MInv (mFetch ⟨1, qp, m.to, m.todo, m.got⟩ p).1 (mFetch ⟨1, qp, m.to, m.todo, m.got⟩ p).2.1
    unfold mFetch
    simp only
    split
    · exact MInv.same (m := m) (p := p) (Pt.doPage_inv hi qp pin_keeps) ht hg
    · have hvi := Pt.victim_inv hi
      unfold mMiss
      cases hv : p.victim.2 with
      | none => exact MInv.same (m := m) (p := p) hvi ht hg
      | some i =>
        obtain ⟨hj, hp0⟩ := victim_some hi hv
        simp only
        cases hd : (p.victim.1.at_ (i : Int)).dirty with
        | false =>
          have hi2 : (if (p.victim.1.at_ (i : Int)).used = true ∧ False then (p.victim.1.release (i : Int)).1 else p.victim.1).Inv := by
            split
            · exact Pt.release_inv hvi _
            · exact hvi
          refine ⟨?_, by rw [hg]; (intro b hb; cases hb), fun _ => hg, ?_, fun x hx hk => ?_, fun _ l x r hl hk => ?_⟩
          · split
            · exact Pt.release_inv hvi _
            · exact hvi
          · rw [hg]; exact Nat.le_refl 32
          · simp only [planFetch] at hx
            rw [if_neg (by simp)] at hx
            have := (mem_pages (by simpa using hx)).1
            omega
          · have hx : x ∈ planFetch qp false (p.victim.1.at_ (i : Int)).page := by
              have e : planFetch qp false (p.victim.1.at_ (i : Int)).page = l ++ x :: r := hl
              rw [e]; simp
            simp only [planFetch] at hx
            rw [if_neg (by simp)] at hx
            have := (mem_pages (by simpa using hx)).1
            omega
        | true =>
          rw [if_neg (by simp)]
          have hus : (p.victim.1.at_ (i : Int)).used = true := by
            rw [Pt.at_nat hj] at hd ⊢
            exact dirty_used hvi hj hd
          refine ⟨hvi, by rw [hg]; (intro b hb; cases hb), fun _ => hg, ?_, fun x hx hk => ?_, fun _ l x r hl hk hk2 y hy => ?_⟩
          · rw [hg]; exact Nat.le_refl 32
          · have hx2 : x ∈ planFetch qp true (p.victim.1.at_ (i : Int)).page := hx
            simp only [planFetch, if_true, List.mem_append] at hx2
            rcases hx2 with hx2 | hx2
            · obtain ⟨_, h2, h3⟩ := mem_pages hx2
              simp only [List.mem_cons, List.not_mem_nil, or_false] at h2
              refine ⟨h3, i, hj, ?_, fun _ => hp0⟩
              rw [h2, Pt.at_nat hj]
              rw [Pt.at_nat hj] at hus
              exact hvi.inv i hj hus
            · have := (mem_pages hx2).1
              omega
          · generalize (p.victim.1.at_ (i : Int)).page = o at hl
            have hl2 : [((2 : Int), o, (0 : Int)), (2, o, 1), (1, qp, 0), (1, qp, 1)] = l ++ x :: r := hl
            match l, hl2 with
            | [], e => simp only [List.nil_append, List.cons.injEq] at e; obtain ⟨rfl, -⟩ := e; exact absurd hk2 (by simp)
            | [_], e =>
              simp only [List.cons_append, List.nil_append, List.cons.injEq] at e
              obtain ⟨-, rfl, rfl⟩ := e
              simp only [List.mem_cons, List.not_mem_nil, or_false] at hy
              rcases hy with rfl | rfl <;> simp
            | [_, _], e => simp only [List.cons_append, List.nil_append, List.cons.injEq] at e; obtain ⟨-, -, rfl, -⟩ := e; exact absurd hk (by simp)
            | [_, _, _], e => simp only [List.cons_append, List.nil_append, List.cons.injEq] at e; obtain ⟨-, -, -, rfl, -⟩ := e; exact absurd hk (by simp)
            | _ :: _ :: _ :: _ :: l, e => simp at e
  · exact MInv.same (m := m) (p := p) (Pt.get_inv hi qp qf ql) ht hg
  · exact MInv.same (m := m) (p := p) (Pt.doPage_inv hi qp (put_keeps qf hu)) ht hg
  · exact MInv.same (m := m) (p := p) (Pt.doPage_inv hi qp unpin_keeps) ht hg
  · exact flush_inv (m := ⟨5, qp, m.to, m.todo, m.got⟩) hi (by simp) hg _ (fun x hx => by rw [selD_eq] at hx; exact mem_dpgs hi hx)
  · exact flush_inv (m := ⟨6, qp, m.to, m.todo, m.got⟩) hi (by simp) hg _ (fun x hx => by rw [selD_eq] at hx; exact mem_dpgs hi hx)
  · show MInv ⟨7, qp, m.to, m.todo, m.got⟩ (mDiscard p qp).1
    refine MInv.same (m := m) (p := p) ?_ ht hg
    unfold mDiscard
    split
    · exact hi
    · exact Pt.release_inv hi _
  · exact MInv.same (m := m) (p := p) hi ht hg
theorem clean_tbl (p : Pt) (i : Int) : (p.clean i).1.tbl = p.tbl := by unfold Pt.clean; split <;> rfl
theorem clean_len (p : Pt) (i : Int) : (p.clean i).1.fs.length = p.fs.length := by
  unfold Pt.clean
  split
  · rfl
  · simp [Pt.setF]
theorem mStep_inv {m : Mc} {p : Pt} (h : MInv m p) (hne : m.todo ≠ []) {bs : List Int} (hu : u8ok bs) (hl : bs.length = 16) :
    (mStep m p bs).2.1.Inv ∧ u8ok (mStep m p bs).1.got ∧ (mStep m p bs).1.got.length + 16 * lds (mStep m p bs).1.todo ≤ 32 ∧ (mStep m p bs).1.op = m.op ∧ (mStep m p bs).1.todo = m.todo.tail ∧
      ((mStep m p bs).1.todo ≠ [] → MInv (mStep m p bs).1 (mStep m p bs).2.1) := by
  obtain ⟨mo, mpg, mto, todo, mgot⟩ := m
  have hi := h.inv
  cases todo with
  | nil => exact absurd rfl hne
  | cons x rest =>
    obtain ⟨xk, xp, xq⟩ := x
    have hms : mStep ⟨mo, mpg, mto, (xk, xp, xq) :: rest, mgot⟩ p bs = if xk = 2 ∧ xq = 1 then (⟨mo, mpg, mto, rest, mgot⟩, mStored ⟨mo, mpg, mto, rest, mgot⟩ p xp) else if xk = 1 then (⟨mo, mpg, mto, rest, mgot ++ bs⟩, p, C6.none) else (⟨mo, mpg, mto, rest, mgot⟩, p, C6.none) := rfl
    have hlds : lds ((xk, xp, xq) :: rest) = (if xk = 1 then 1 else 0) + lds rest := by
      unfold lds
      rw [List.filter_cons]
      by_cases hk : xk = 1
      · simp [hk]; omega
      · simp [hk]
    have hroom := h.room
    simp only at hroom
    rw [hlds] at hroom
    have hone : mo = 1 → ∀ l x r, rest = l ++ x :: r → x.1 = 2 → x.2.2 = 1 → ∀ y ∈ r, y.1 ≠ 2 := fun h1 l x r he => h.one h1 ((xk, xp, xq) :: l) x r (by show _ :: rest = _; rw [he]; rfl)
    have hsto : ∀ x ∈ rest, x.1 = 2 → (x.2.2 = 0 ∨ x.2.2 = 1) ∧ ∃ j : Nat, j < p.fs.length ∧ mget p.tbl x.2.1 = some (j : Int) ∧ (mo = 1 → (p.at_ j).pins = 0) := fun x hx => h.sto x (List.mem_cons_of_mem _ hx)
    rw [hms]
    by_cases hA : xk = 2 ∧ xq = 1
    · rw [if_pos hA]
      obtain ⟨rfl, rfl⟩ := hA
      obtain ⟨-, j, hj, hg, hpin⟩ := h.sto _ (List.mem_cons_self) rfl
      simp only at hg hpin
      have hci := Pt.clean_inv hi (j : Int)
      rw [if_neg (by decide)] at hroom
      have hr : mgot.length + 16 * lds rest ≤ 32 := by omega
      unfold mStored
      rw [hg]
      simp only [Option.getD_some]
      by_cases ho : mo = 1
      · rw [if_pos ho]
        have hri := Pt.release_inv hci (j : Int)
        refine ⟨hri, h.u8, hr, by first | trivial | rfl, by first | trivial | rfl, fun hne2 => ⟨hri, h.u8, fun h0 => absurd h0 hne2, hr, fun x hx hk => ?_, hone⟩⟩
        exact absurd hk (h.one ho [] _ rest rfl rfl rfl x hx)
      · rw [if_neg ho]
        refine ⟨hci, h.u8, hr, by first | trivial | rfl, by first | trivial | rfl, fun hne2 => ⟨hci, h.u8, fun h0 => absurd h0 hne2, hr, fun x hx hk => ?_, hone⟩⟩
        obtain ⟨h1, k, hk1, hk2, -⟩ := hsto x hx hk
        refine ⟨h1, k, ?_, ?_, fun h => absurd h ho⟩
        · rw [clean_len]; exact hk1
        · rw [clean_tbl]; exact hk2
    · rw [if_neg hA]
      by_cases hk : xk = 1
      · rw [if_pos hk] at hroom ⊢
        have hr : (mgot ++ bs).length + 16 * lds rest ≤ 32 := by rw [List.length_append]; omega
        have hu2 : u8ok (mgot ++ bs) := fun b hb => (List.mem_append.1 hb).elim (h.u8 b) (hu b)
        exact ⟨hi, hu2, hr, rfl, rfl, fun hne2 => ⟨hi, hu2, fun h0 => absurd h0 hne2, hr, hsto, hone⟩⟩
      · rw [if_neg hk] at hroom ⊢
        have hr : mgot.length + 16 * lds rest ≤ 32 := by omega
        exact ⟨hi, h.u8, hr, rfl, rfl, fun hne2 => ⟨hi, h.u8, fun h0 => absurd h0 hne2, hr, hsto, hone⟩⟩
theorem end_load_inv {m : Mc} {p : Pt} (h : MInv m p) (hne : m.todo ≠ []) {bs : List Int} (hu : u8ok bs) (hl : bs.length = 16) (to page : Int) : ((mStep m p bs).2.1.load to page (mStep m p bs).1.got).1.Inv := by
  obtain ⟨h1, h2, -⟩ := mStep_inv h hne hu hl
  exact Pt.load_inv h1 _ _ h2
theorem end_inv {m : Mc} {p : Pt} (h : MInv m p) (hne : m.todo ≠ []) (e : Int) {bs : List Int} (hu : u8ok bs) (hl : bs.length = 16) : MInv (mEnd m p e bs).1 (mEnd m p e bs).2.1 := by
  obtain ⟨h1, h2, h3, h4, h5, h6⟩ := mStep_inv h hne hu hl
  have hli := end_load_inv h hne hu hl m.to m.page
  unfold mEnd
  split
  · exact idle_inv h.inv
  · split
    · rename_i h0
      exact h6 (by intro he; rw [he] at h0; exact absurd h0 (by decide))
    · refine idle_inv ?_
      simp only
      split
      · exact Pt.doPage_inv hli _ pin_keeps
      · exact h1
theorem end_sto {m : Mc} {p : Pt} (h : MInv m p) (hne : m.todo ≠ []) : m.io.1 = 2 ∧ m.io.2.2 = 1 → ∃ j : Nat, j < p.fs.length ∧ mget p.tbl m.io.2.1 = some (j : Int) ∧ (m.op = 1 → (p.at_ j).pins = 0) := by
  rintro ⟨h1, -⟩
  cases ht : m.todo with
  | nil => exact absurd ht hne
  | cons x rest =>
    have hio : m.io = x := by unfold Mc.io; rw [ht]; rfl
    rw [hio] at h1 ⊢
    exact (h.sto x (by rw [ht]; exact List.mem_cons_self) h1).2
theorem data_k {m : Mc} {p : Pt} (h : MInv m p) : m.io.1 = 2 → m.io.2.2 = 0 ∨ m.io.2.2 = 1 := by
  intro h1
  cases ht : m.todo with
  | nil => unfold Mc.io at h1; rw [ht] at h1; exact absurd h1 (by decide)
  | cons x rest =>
    have hio : m.io = x := by unfold Mc.io; rw [ht]; rfl
    rw [hio] at h1 ⊢
    exact (h.sto x (by rw [ht]; exact List.mem_cons_self) h1).1
theorem got_len {m : Mc} {p : Pt} (h : MInv m p) {bs : List Int} (hl : bs.length = 16) : m.got.length + bs.length ≤ 100000 := by have := h.room; omega
end Go.Proofs.Ytgipjpiiomgjjaa
