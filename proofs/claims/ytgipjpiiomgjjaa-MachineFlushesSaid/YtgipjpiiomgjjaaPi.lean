/-
  What is kept by whatever is done with a partition: plain, with no program in sight.
-/
import Derived.Test.YtgipjpiiomgjjaaPh
namespace Go.Proofs.Ytgipjpiiomgjjaa
open Go Go.Sl Go.IntWalk
set_option maxHeartbeats 2000000
theorem Fr.zero_good : Fr.zero.Good := ⟨rfl, by decide, by decide, by intro x hx; simp [Fr.zero] at hx; omega⟩
theorem Pt.new_inv {n : Nat} (h1 : 1 ≤ n) (h2 : n ≤ 64) : (Pt.new n).Inv := by
  have hmem : ∀ f ∈ (Pt.new n).fs, f = Fr.zero := fun f hf => by simp [Pt.new] at hf; exact hf.2
  refine ⟨Pt.new_ok h1 h2, fun f hf => by rw [hmem f hf]; exact Fr.zero_good, ⟨by simp [Pt.new], by simp [Pt.new]; omega⟩, fun page i h => by simp [Pt.new, mget] at h, fun j h hu => ?_, fun f hf _ => hmem f hf, by simp [Pt.new]⟩
  have := hmem _ (List.getElem_mem h)
  rw [this] at hu
  cases hu
theorem mem_set' {α : Type} {l : List α} {j : Nat} {x y : α} (h : y ∈ l.set j x) : y = x ∨ y ∈ l := by
  rcases List.mem_or_eq_of_mem_set h with h | h
  · exact .inr h
  · exact .inl h
theorem Pt.setF_inv {p : Pt} (hi : p.Inv) {j : Nat} (hj : j < p.fs.length) {f : Fr} (hg : f.Good) (hu : f.used = p.fs[j].used) (hp : f.page = p.fs[j].page) (he : f.used = false → f = Fr.zero) : (p.setF j f).Inv := by
  have hlen : (p.setF j f).fs.length = p.fs.length := by simp [Pt.setF]
  have hsame : ∀ k (h : k < p.fs.length) (h2 : k < (p.setF j f).fs.length), (p.setF j f).fs[k].used = p.fs[k].used ∧ (p.setF j f).fs[k].page = p.fs[k].page := by
    intro k h h2
    simp only [Pt.setF, List.getElem_set]
    split
    · rename_i h3; subst h3; exact ⟨hu, hp⟩
    · exact ⟨rfl, rfl⟩
  refine ⟨⟨fun g hgm => ?_, by rw [hlen]; exact hi.ok.2.1, by rw [hlen]; exact hi.ok.2.2⟩, fun g hgm => ?_, by rw [hlen]; exact hi.hand, fun page i h => ?_, fun k h hk => ?_, fun g hgm hk => ?_, hi.nd⟩
  · rcases mem_set' hgm with rfl | h
    · exact hg.1
    · exact hi.ok.1 g h
  · rcases mem_set' hgm with rfl | h
    · exact hg
    · exact hi.good g h
  · obtain ⟨k, hk, e, h1, h2⟩ := hi.tbl page i h
    have := hsame k hk (by omega)
    exact ⟨k, by omega, e, by rw [this.1, h1], by rw [this.2, h2]⟩
  · have := hsame k (by omega) h
    rw [this.1] at hk
    rw [this.2]
    exact hi.inv k (by omega) hk
  · rcases mem_set' hgm with rfl | h
    · exact he hk
    · exact hi.emp g h hk
/-- A frame is laid in, with a table that knows it. -/
theorem Pt.lay_inv {p : Pt} (hi : p.Inv) {j : Nat} (hj : j < p.fs.length) {f : Fr} (hg : f.Good) (he : f.used = false → f = Fr.zero) (hnew : f.used = true → ∀ k, mget p.tbl f.page = some k → k = (j : Int)) :
    (⟨p.fs.set j f, if f.used = true then mput (p.forget j).tbl f.page (j : Int) else (p.forget j).tbl, p.hand⟩ : Pt).Inv := by
  have hat := Pt.at_nat hj
  have hfg : ∀ y, mget (p.forget j).tbl y = if p.fs[j].used = true ∧ p.fs[j].page = y then none else mget p.tbl y := by
    intro y
    unfold Pt.forget
    rw [hat]
    simp only
    split
    · rename_i h
      rw [mget_mdel hi.nd]
      by_cases h2 : p.fs[j].page = y
      · rw [if_pos h2, if_pos ⟨h, h2⟩]
      · rw [if_neg h2, if_neg (fun h3 => h2 h3.2)]
    · rename_i h
      rw [if_neg (fun h3 => h h3.1)]
  have hfnd : ((p.forget j).tbl.map (·.1)).Nodup := by
    unfold Pt.forget
    simp only
    split
    · exact mdel_nd hi.nd _
    · exact hi.nd
  refine ⟨⟨fun g hgm => ?_, by simpa using hi.ok.2.1, by simpa using hi.ok.2.2⟩, fun g hgm => ?_, by simpa using hi.hand, fun page i h => ?_, fun k h hk => ?_, fun g hgm hk => ?_, ?_⟩
  · rcases mem_set' hgm with rfl | h
    · exact hg.1
    · exact hi.ok.1 g h
  · rcases mem_set' hgm with rfl | h
    · exact hg
    · exact hi.good g h
  · have old : mget (p.forget j).tbl page = some i → ∃ k, ∃ _ : k < (p.fs.set j f).length, i = (k : Int) ∧ (p.fs.set j f)[k].used = true ∧ (p.fs.set j f)[k].page = page := by
      intro h
      rw [hfg] at h
      split at h
      · cases h
      · rename_i hn
        obtain ⟨k, hk, e, h1, h2⟩ := hi.tbl page i h
        have hkj : j ≠ k := by rintro rfl; exact hn ⟨h1, h2⟩
        exact ⟨k, by simpa using hk, e, by rw [List.getElem_set_ne hkj]; exact h1, by rw [List.getElem_set_ne hkj]; exact h2⟩
    simp only at h
    split at h
    · rename_i hu
      rw [mget_mput] at h
      split at h
      · rename_i hpg
        cases h
        exact ⟨j, by simpa using hj, rfl, by simpa using hu, by simpa using hpg⟩
      · exact old h
    · exact old h
  · simp only at hk ⊢
    have hkl : k < p.fs.length := by simpa using h
    by_cases hkj : j = k
    · subst hkj
      simp only [List.getElem_set_self] at hk ⊢
      rw [if_pos hk, mget_mput, if_pos rfl]
    · rw [List.getElem_set_ne hkj] at hk ⊢
      have h1 := hi.inv k hkl hk
      have h2 : mget (p.forget j).tbl p.fs[k].page = some (k : Int) := by
        rw [hfg, if_neg, h1]
        rintro ⟨h3, h4⟩
        have h5 := hi.inv j hj h3
        rw [h4, h1] at h5
        simp at h5
        omega
      split
      · rename_i hu
        rw [mget_mput, if_neg, h2]
        intro h3
        have := hnew hu k (by rw [h3]; exact h1)
        exact hkj (by omega)
      · exact h2
  · rcases mem_set' hgm with rfl | h
    · exact he hk
    · exact hi.emp g h hk
  · simp only
    split
    · exact mput_nd hfnd _ _
    · exact hfnd
theorem Pt.load_inv {p : Pt} (hi : p.Inv) (i page : Int) {bs : List Int} (hb : u8ok bs) : (p.load i page bs).1.Inv := by
  unfold Pt.load
  split
  · rename_i hm
    split
    · rename_i hl
      unfold Pt.mayLoad at hm
      simp only [Bool.and_eq_true, decide_eq_true_eq] at hm
      obtain ⟨j, rfl⟩ : ∃ j : Nat, i = (j : Int) := ⟨i.toNat, by omega⟩
      have := Pt.lay_inv hi (j := j) (by omega) (f := Fr.load page bs) ⟨hl, by simp [Fr.load], by simp [Fr.load], hb⟩ (fun h => by cases h) (fun _ k hk => by
        have h2 := hm.2
        simp only [Fr.load] at hk
        rw [hk] at h2
        simpa using h2)
      simpa [Fr.load] using this
    · exact hi
  · exact hi
theorem Pt.release_inv {p : Pt} (hi : p.Inv) (i : Int) : (p.release i).1.Inv := by
  unfold Pt.release
  split
  · exact hi
  · rename_i hin
    simp only [Decidable.not_not] at hin
    split
    · unfold inFr at hin
      obtain ⟨j, rfl⟩ : ∃ j : Nat, i = (j : Int) := ⟨i.toNat, by omega⟩
      have := Pt.lay_inv hi (j := j) (by omega) (f := Fr.zero) Fr.zero_good (fun _ => rfl) (fun h => by cases h)
      simpa [Fr.zero] using this
    · exact hi
theorem Pt.clean_inv {p : Pt} (hi : p.Inv) (i : Int) : (p.clean i).1.Inv := by
  unfold Pt.clean
  split
  · exact hi
  · rename_i hin
    simp only [Decidable.not_not] at hin
    unfold inFr at hin
    obtain ⟨j, rfl⟩ : ∃ j : Nat, i = (j : Int) := ⟨i.toNat, by omega⟩
    have hj : j < p.fs.length := by omega
    rw [Pt.at_nat hj, Int.toNat_natCast]
    have hg := hi.good _ (List.getElem_mem hj)
    refine Pt.setF_inv hi hj ⟨hg.1, hg.2⟩ rfl rfl (fun h => ?_)
    have := hi.emp _ (List.getElem_mem hj) h
    rw [this]
    rfl
theorem Pt.clear_inv {p : Pt} (hi : p.Inv) : p.clear.Inv := Pt.new_inv hi.ok.2.1 hi.ok.2.2
/-- A turn of a frame that keeps it in its place. -/
def Keeps (g : Fr → Fr) : Prop := ∀ f : Fr, f.Good → (g f).Good ∧ (g f).used = f.used ∧ (g f).page = f.page
theorem Pt.doPage_inv {p : Pt} (hi : p.Inv) (page : Int) {g : Fr → Fr × Int} (hk : Keeps (fun f => (g f).1)) : (p.doPage page g).1.Inv := by
  cases hg : mget p.tbl page with
  | none => rw [Pt.doPage_none hg]; exact hi
  | some i =>
    obtain ⟨j, hj, rfl, hu, hpg⟩ := hi.tbl page i hg
    rw [Pt.doPage_some hj hg]
    obtain ⟨h1, h2, h3⟩ := hk _ (hi.good _ (List.getElem_mem hj))
    exact Pt.setF_inv hi hj h1 h2 h3 (fun h => by have h4 : (g p.fs[j]).1.used = false := h; rw [h2, hu] at h4; cases h4)
theorem Pt.get_inv {p : Pt} (hi : p.Inv) (page off n : Int) : (p.get page off n).1.Inv := by
  cases hg : mget p.tbl page with
  | none => rw [Pt.get_none hg]; exact hi
  | some i =>
    obtain ⟨j, hj, rfl, hu, hpg⟩ := hi.tbl page i hg
    rw [Pt.get_some hj hg]
    have h1 := hi.good _ (List.getElem_mem hj)
    have h2 : ((p.fs[j].get off n).1).Good ∧ (p.fs[j].get off n).1.used = p.fs[j].used ∧ (p.fs[j].get off n).1.page = p.fs[j].page := by
      unfold Fr.get
      split
      · exact ⟨h1, rfl, rfl⟩
      · split
        · exact ⟨h1, rfl, rfl⟩
        · exact ⟨⟨h1.1, h1.2⟩, rfl, rfl⟩
    exact Pt.setF_inv hi hj h2.1 h2.2.1 h2.2.2 (fun h => by have h4 := h2.2.1; rw [h, hu] at h4; cases h4)
theorem pin_keeps : Keeps (fun f => f.pin.1) := by
  intro f h
  simp only [Fr.pin]
  split
  · exact ⟨h, rfl, rfl⟩
  · split
    · exact ⟨h, rfl, rfl⟩
    · rename_i h2
      exact ⟨⟨h.1, by have := h.2.1; simp only; omega, by simp only; omega, h.2.2.2⟩, rfl, rfl⟩
theorem unpin_keeps : Keeps (fun f => f.unpin.1) := by
  intro f h
  simp only [Fr.unpin]
  split
  · exact ⟨h, rfl, rfl⟩
  · rename_i h2
    exact ⟨⟨h.1, by have := h.2.1; simp only; omega, by have := h.2.2.1; simp only; omega, h.2.2.2⟩, rfl, rfl⟩
theorem put_keeps (off : Int) {bs : List Int} (hb : u8ok bs) : Keeps (fun f => (f.put off bs).1) := by
  intro f h
  simp only [Fr.put]
  split
  · exact ⟨h, rfl, rfl⟩
  · split
    · exact ⟨h, rfl, rfl⟩
    · rename_i h2
      have h0 : fits 32 off bs.length = 0 := by simpa using h2
      have hb32 : f.b.length = 32 := h.1
      refine ⟨⟨?_, h.2.1, h.2.2.1, ?_⟩, rfl, rfl⟩
      · show (putb f.b off bs).length = 32
        rw [putb_len (by rw [hb32]; exact h0), hb32]
      · intro x hx
        simp only [putb, List.mem_append] at hx
        rcases hx with (hx | hx) | hx
        · exact h.2.2.2 x (List.mem_of_mem_take hx)
        · exact hb x hx
        · exact h.2.2.2 x (List.mem_of_mem_drop hx)
/-! The clock -/
def Fl.Keeps (g f : Fl) : Prop := g.used = f.used ∧ g.dirty = f.dirty ∧ g.pins = f.pins ∧ (f.used = false → g = f)
theorem Fl.goes_keeps (f : Fl) : Fl.Keeps f.goes.1 f := by
  unfold Fl.goes
  split
  · exact ⟨rfl, rfl, rfl, fun _ => rfl⟩
  · rename_i h
    split
    · exact ⟨rfl, rfl, rfl, fun h2 => absurd h2 h⟩
    · exact ⟨rfl, rfl, rfl, fun _ => rfl⟩
theorem Fl.Keeps.trans {a b c : Fl} (h : Fl.Keeps a b) (h2 : Fl.Keeps b c) : Fl.Keeps a c :=
  ⟨h.1.trans h2.1, h.2.1.trans h2.2.1, h.2.2.1.trans h2.2.2.1, fun h3 => by rw [h.2.2.2 (by rw [h2.1]; exact h3), h2.2.2.2 h3]⟩
theorem getD_eq {fs : List Fl} {i : Nat} (h : i < fs.length) : fs.getD i Fl.none = fs[i] := by rw [List.getD_eq_getElem?_getD, List.getElem?_eq_getElem h, Option.getD_some]
theorem turn_keeps (hand : Nat) : ∀ (m k : Nat) (fs : List Fl) (j : Nat) (h : j < fs.length) (h2 : j < (turnFrom hand m k fs).1.length), Fl.Keeps (turnFrom hand m k fs).1[j] fs[j]
  | 0, k, fs, j, h, h2 => ⟨rfl, rfl, rfl, fun _ => rfl⟩
  | m + 1, k, fs, j, h, h2 => by
    have hn : (hand + k) % fs.length < fs.length := Nat.mod_lt _ (by omega)
    have hset : ∀ (h3 : j < (fs.set ((hand + k) % fs.length) (fs.getD ((hand + k) % fs.length) Fl.none).goes.1).length), Fl.Keeps (fs.set ((hand + k) % fs.length) (fs.getD ((hand + k) % fs.length) Fl.none).goes.1)[j] fs[j] := by
      intro h3
      rw [List.getElem_set]
      split
      · rename_i h4
        rw [getD_eq hn]
        have := Fl.goes_keeps fs[(hand + k) % fs.length]
        simpa [h4] using this
      · exact ⟨rfl, rfl, rfl, fun _ => rfl⟩
    have e : turnFrom hand (m + 1) k fs = if (fs.getD ((hand + k) % fs.length) Fl.none).goes.2 = true then (fs.set ((hand + k) % fs.length) (fs.getD ((hand + k) % fs.length) Fl.none).goes.1, some ((hand + k) % fs.length, k + 1))
      else turnFrom hand m (k + 1) (fs.set ((hand + k) % fs.length) (fs.getD ((hand + k) % fs.length) Fl.none).goes.1) := rfl
    have key : ∀ (r : List Fl × Option (Nat × Nat)) (_ : turnFrom hand (m + 1) k fs = r) (h2 : j < r.1.length), Fl.Keeps r.1[j] fs[j] := by
      intro r hr h2
      rw [e] at hr
      split at hr
      · subst hr; exact hset h2
      · subst hr
        have h3 : j < (fs.set ((hand + k) % fs.length) (fs.getD ((hand + k) % fs.length) Fl.none).goes.1).length := by simpa using h
        exact (turn_keeps hand m (k + 1) _ j h3 h2).trans (hset h3)
    exact key _ rfl h2
theorem setAll_get : ∀ (fs : List Fr) (gs : List Fl) (j : Nat) (h : j < (setAll fs gs).length) (h1 : j < fs.length) (h2 : j < gs.length), (setAll fs gs)[j] = fs[j].setFl gs[j]
  | f :: fs, g :: gs, 0, _, _, _ => rfl
  | f :: fs, g :: gs, j + 1, h, h1, h2 => by
    simp only [setAll, List.getElem_cons_succ]
    exact setAll_get fs gs j (by simpa [setAll] using h) (by simpa using h1) (by simpa using h2)
  | [], _, _, _, h1, _ => by simp at h1
  | _ :: _, [], _, _, _, h2 => by simp at h2
theorem Pt.victim_inv {p : Pt} (hi : p.Inv) : p.victim.1.Inv := by
  obtain ⟨h, hh⟩ : ∃ h : Nat, p.hand = (h : Int) := ⟨p.hand.toNat, by have := hi.hand; omega⟩
  have hlen : (p.victim.1).fs.length = p.fs.length := setAll_len _ _
  have hgl : ((turnFrom p.hand.toNat (2 * p.fs.length) 0 (p.fs.map Fr.fl)).1).length = p.fs.length := by rw [turnFrom_len]; simp
  have hget : ∀ j (h1 : j < p.fs.length) (h2 : j < p.victim.1.fs.length), ∃ g : Fl, Fl.Keeps g p.fs[j].fl ∧ p.victim.1.fs[j] = p.fs[j].setFl g := by
    intro j h1 h2
    refine ⟨(turnFrom p.hand.toNat (2 * p.fs.length) 0 (p.fs.map Fr.fl)).1[j]'(by omega), ?_, setAll_get _ _ j h2 h1 (by omega)⟩
    have := turn_keeps p.hand.toNat (2 * p.fs.length) 0 (p.fs.map Fr.fl) j (by simpa using h1) (by omega)
    simpa using this
  have hmem : ∀ f ∈ p.victim.1.fs, ∃ (j : Nat) (h1 : j < p.fs.length) (g : Fl), Fl.Keeps g p.fs[j].fl ∧ f = p.fs[j].setFl g := by
    intro f hf
    obtain ⟨j, hj, rfl⟩ := List.getElem_of_mem hf
    obtain ⟨g, h1, h2⟩ := hget j (by omega) hj
    exact ⟨j, by omega, g, h1, h2⟩
  refine ⟨⟨fun f hf => ?_, by rw [hlen]; exact hi.ok.2.1, by rw [hlen]; exact hi.ok.2.2⟩, fun f hf => ?_, ?_, fun page i hg => ?_, fun j hj hu => ?_, fun f hf hu => ?_, hi.nd⟩
  · obtain ⟨j, hj, g, h1, rfl⟩ := hmem f hf
    exact Fr.setFl_ok (hi.ok.1 _ (List.getElem_mem hj)) g
  · obtain ⟨j, hj, g, h1, rfl⟩ := hmem f hf
    have := hi.good _ (List.getElem_mem hj)
    refine ⟨this.1, ?_, ?_, this.2.2.2⟩
    · show 0 ≤ g.pins
      rw [h1.2.2.1]; exact this.2.1
    · show g.pins ≤ 100
      rw [h1.2.2.1]; exact this.2.2.1
  · rw [hlen]
    have h0 := hi.ok.2.1
    unfold Pt.victim
    simp only
    split
    · rename_i i q _
      have := Nat.mod_lt (i + 1) (show 0 < p.fs.length by omega)
      omega
    · exact hi.hand
  · obtain ⟨j, hj, e, h1, h2⟩ := hi.tbl page i hg
    obtain ⟨g, h3, h4⟩ := hget j hj (by omega)
    refine ⟨j, by omega, e, ?_, ?_⟩
    · rw [h4]; show g.used = true; rw [h3.1]; exact h1
    · rw [h4]; exact h2
  · obtain ⟨g, h3, h4⟩ := hget j (by omega) hj
    rw [h4] at hu ⊢
    have hu2 : g.used = true := hu
    rw [h3.1] at hu2
    exact hi.inv j (by omega) hu2
  · obtain ⟨j, hj, g, h1, rfl⟩ := hmem f hf
    have hu2 : g.used = false := hu
    rw [h1.1] at hu2
    have h3 := h1.2.2.2 hu2
    have h4 := hi.emp _ (List.getElem_mem hj) hu2
    rw [h3]
    exact h4
def zeros : List Int := List.replicate 32 0
theorem zeros_ok : u8ok zeros := by intro x hx; simp [zeros] at hx; omega
theorem zeros_ro {ex : TypeId} (b : Nat) {l : List Value} (h : l = u8s zeros) : RoSl 1 (u8s zeros) (some ⟨b, 0, none⟩) zeros.length [(b, .cells l.toArray ex (0, 0))] := by
  subst h
  exact ⟨rfl, .inr ⟨b, 0, u8s zeros, ex, (0, 0), rfl, rfl, by decide, rfl⟩⟩
def victimV (o : Option Nat) : Value := match o with | some i => .tuple #[.int .i64 (i : Int), .bool true] | none => .tuple #[.int .i64 0, .bool false]
theorem rep_zeros : repL 32 [.int .u8 0] = u8s zeros := rfl
end Go.Proofs.Ytgipjpiiomgjjaa
