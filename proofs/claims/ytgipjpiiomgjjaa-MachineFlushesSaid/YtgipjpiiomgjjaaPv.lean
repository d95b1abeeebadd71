/-
  Which frame goes: Victim.
-/
import Derived.Test.YtgipjpiiomgjjaaPd
namespace Go.Proofs.Ytgipjpiiomgjjaa
open Go Go.Sl Go.IntWalk
set_option maxHeartbeats 2000000
set_option maxRecDepth 20000
def Fr.fl (f : Fr) : Fl := ⟨f.used, f.dirty, f.ref, f.pins⟩
def Fr.setFl (f : Fr) (g : Fl) : Fr := ⟨g.used, g.dirty, g.ref, g.pins, f.page, f.b⟩
theorem Fr.setFl_ok {f : Fr} (h : f.Ok) (g : Fl) : (f.setFl g).Ok := h
def setAll : List Fr → List Fl → List Fr
  | f :: fs, g :: gs => f.setFl g :: setAll fs gs
  | fs, _ => fs
theorem setAll_len : ∀ (fs : List Fr) (gs : List Fl), (setAll fs gs).length = fs.length
  | [], _ => rfl
  | _ :: _, [] => rfl
  | f :: fs, g :: gs => by simp [setAll, setAll_len fs gs]
theorem setAll_next : ∀ (fs : List Fr) (gs : List Fl) (j : Nat) (h : j < fs.length) (h2 : j < gs.length), (setAll fs (gs.take j)).set j (((setAll fs (gs.take j))[j]'(by rw [setAll_len]; exact h)).setFl gs[j]) = setAll fs (gs.take (j + 1))
  | f :: fs, g :: gs, 0, _, _ => by
    cases fs <;> simp [setAll]
  | f :: fs, g :: gs, j + 1, h, h2 => by
    have ih := setAll_next fs gs j (by simpa using h) (by simpa using h2)
    simp only [List.take_succ_cons, setAll, List.set_cons_succ, List.getElem_cons_succ]
    rw [ih]
  | [], _, _, h, _ => by simp at h
  | _ :: _, [], _, _, h2 => by simp at h2
theorem setAll0 : ∀ fs : List Fr, setAll fs [] = fs
  | [] => rfl
  | _ :: _ => rfl
def Pt.victim (p : Pt) : Pt × Option Nat :=
  let r := turnFrom p.hand.toNat (2 * p.fs.length) 0 (p.fs.map Fr.fl)
  (⟨setAll p.fs r.1, p.tbl, match r.2 with | some (i, _) => (((i + 1) % p.fs.length : Nat) : Int) | Option.none => p.hand⟩, r.2.map (·.1))
theorem setAll_ok : ∀ {fs : List Fr} (_ : ∀ f ∈ fs, f.Ok) (gs : List Fl), ∀ f ∈ setAll fs gs, f.Ok
  | [], _, _, f, hf => by simp [setAll] at hf
  | f0 :: fs, h, [], f, hf => h f (by simpa [setAll] using hf)
  | f0 :: fs, h, g :: gs, f, hf => by
    simp only [setAll, List.mem_cons] at hf
    rcases hf with rfl | hf
    · exact Fr.setFl_ok (h f0 (by simp)) g
    · exact setAll_ok (fun x hx => h x (by simp [hx])) gs f hf
theorem own_flag {lo : List Value} {gs : List Fl} {cap n : Nat} (h1 : lo.length = cap * 4) (h2 : lo.take (n * 4) = flagsOf gs) (hc : n ≤ cap) (hn : gs.length = n) {j : Nat} (hj : j < gs.length) : seg? lo (0 + j * 4) 4 = some gs[j].l := by
  refine RoSl.elem (f := Fl.l) (m := 4) (fun _ => rfl) (xs := gs) (off := 0) ?_ ?_ hj
  · rw [hn, h1, Nat.zero_add]; exact Nat.mul_le_mul_right _ hc
  · rw [hn, List.drop_zero]; exact h2
theorem flags_in {fs : List Fr} (h : ∀ f ∈ fs, f.Ok) {i : Nat} (hi : i < fs.length) (g : Fl) : splice? (flat fs) (0 + i * 37) g.l = some (flat (fs.set i (fs[i].setFl g))) := by
  rw [flat_set hi, flat_split hi]
  have hA : (flat (fs.take i)).length = 0 + i * 37 := by rw [take_flat_len h (Nat.le_of_lt hi)]; omega
  exact splice_mid (o := 0) (M := fs[i].l) hA rfl
theorem Victim_spec (p : Pt) (hpo : p.Ok) (hh : 0 ≤ p.hand ∧ p.hand < p.fs.length) (b : Nat) (H : HL) (hp : PtAt p b H) :
    Ctr Try.prog 82 [.pointer (some ⟨b, 0, none⟩)] [H] [] (fun v L' => v = (match p.victim.2 with | some i => .tuple #[.int .i64 (i : Int), .bool true] | Option.none => .tuple #[.int .i64 0, .bool false]) ∧ ∃ H', L' = [H'] ∧ PtAt p.victim.1 b H') := by
  have hok := hpo.1
  have h64 := hpo.2.2
  have h1p := hpo.2.1
  obtain ⟨bf, bm, es, clock, rfl, hm⟩ := hp
  refine Ctr.enter (n := 61) [.tmp 2, .tmp 3] [(0, _)] Try.func82 rfl rfl rfl (lb rfl) Try.call82 ⟨rfl, trivial⟩ ?_
  intro cx fin fin0
  refine aG ?_
  refine W.split 0 rfl ?_
  refine aG ?_
  repeat (first | refine gw ?_ | refine gN fun _ => ?_ | refine gB fun _ => ?_ | fail)
  refine W.nilChunk ?_
  refine aLp (fun k ρ1 L1 => ∃ (j : Nat) (aa : Option Addr) (cc : Nat) (Hl : HL), j ≤ p.fs.length ∧ Own 4 55 (flagsOf ((p.fs.map Fr.fl).take j)) aa j cc Hl ∧ k = p.fs.length - j ∧ ρ1 = [(17, .int .i64 (j : Int)), (16, .int .i64 (p.fs.length : Int)), (15, .slice (some ⟨bf, 0, none⟩) p.fs.length p.fs.length), (4, .slice aa j cc), (0, .pointer (some ⟨b, 0, none⟩))] ∧ L1 = [[(b, .cells #[.slice (some ⟨bf, 0, none⟩) p.fs.length p.fs.length, .map (some bm), .int .i64 p.hand] 97 (0, 0))], [(bf, .cells (flat p.fs).toArray 58 (0, 0))], [(bm, .map es clock)], Hl]) (o := ⟨0, none, 0, [], Nat.zero_le _, Own.nil _ _, rfl, rfl, rfl⟩) (h := ?_)
  rintro k ρ1 L1 ⟨j, aa, cc, Hl, hj, hown, rfl, rfl, rfl⟩
  refine aG ?_
  by_cases hlt : j < p.fs.length
  · refine aT ?_ (hb := by simp; omega)
    have hfo := hok _ (List.getElem_mem hlt)
    have hnx : (p.fs.map Fr.fl).take (j + 1) = (p.fs.map Fr.fl).take j ++ [p.fs[j].fl] := by rw [List.take_add_one]; simp [hlt]
    have hld : ∀ (n : Nat) (cx : Cx) (ρ : Env) (L : List HL) (x : Operand) (ty : Nat) R, ev? ρ x = some (.pointer (some ⟨bf, 0 + j * 37, none⟩)) → At R L bf (.cells (flat p.fs).toArray 58 (0, 0)) → OpVal Try.prog n R cx (.load 58 x) ty ρ L p.fs[j].v := fun n cx ρ L x ty R hx hb => load_frame tab_ok rfl hok hlt hx hb
    generalize p.fs[j] = f at hfo hnx hld
    refine aV (OpVal.ixSl tab_ok rfl rfl rfl rfl rfl hlt) ?_
    refine aV (hld _ _ _ _ _ _ _ rfl (at_own 1 rfl)) ?_
    refine W.new tab_ok rfl rfl (by decide) ?_
    intro bt
    refine aG ?_
    refine W.store tab_ok rfl Upd.here rfl rfl rfl (Fr.l_len hfo) (Fr.l_one f) (store_all hfo rfl) (W.step tab_ok rfl rfl ?_)
    refine aV (OpVal.load (v := f.fl.v) tab_ok rfl (at_own 0 rfl) rfl) ?_
    refine aSl (ps := [_]) ?_
    intro bq
    refine aG ?_
    refine aAp (hown) ?_
    rintro _ _ ⟨_, _, _, rfl, rfl, ho⟩
    refine aG ?_
    have ei : flagsOf ((p.fs.map Fr.fl).take j) ++ [.bool f.fl.used, .bool f.fl.dirty, .bool f.fl.ref, .int .i64 f.fl.pins] = flagsOf ((p.fs.map Fr.fl).take (j + 1)) := by rw [hnx]; simp [flagsOf, Fl.l]
    rw [ei] at ho
    refine aV (OpVal.add rfl rfl (i64_in _ (by omega))) ?_
    refine aR (o := ⟨p.fs.length - (j + 1), by omega, j + 1, _, _, _, by omega, ho, rfl, rfl, rfl⟩)
  · refine aF ?_ (hb := by simp; omega)
    have hjn : j = p.fs.length := by omega
    subst hjn
    have hml : (p.fs.map Fr.fl).length = p.fs.length := by simp
    rw [List.take_of_length_le (by omega)] at hown
    obtain ⟨hn, hhn⟩ : ∃ hn : Nat, p.hand = (hn : Int) := ⟨p.hand.toNat, by omega⟩
    have hT := Turn_spec (p.fs.map Fr.fl) (by omega) (by omega) hn (by omega) aa cc Hl (by rw [hml]; exact Own.roSl hown)
    rw [hml] at hT
    rw [hhn]
    repeat (first | refine gw ?_ | refine gN fun _ => ?_ | refine gB fun _ => ?_ | fail)
    refine aC (o := hT) (h := ?_)
    rintro _ _ ⟨a', cap', Ho, rfl, ho, rfl⟩
    obtain ⟨bo, lo, rfl, rfl, g1, g2, g3⟩ := ho.some (by omega)
    have hlen2 : (turnFrom hn (2 * p.fs.length) 0 (p.fs.map Fr.fl)).1.length = p.fs.length := by rw [turnFrom_len, hml]
    have hv : p.victim = (⟨setAll p.fs (turnFrom hn (2 * p.fs.length) 0 (p.fs.map Fr.fl)).1, p.tbl, match (turnFrom hn (2 * p.fs.length) 0 (p.fs.map Fr.fl)).2 with | some (i, _) => (((i + 1) % p.fs.length : Nat) : Int) | Option.none => p.hand⟩, (turnFrom hn (2 * p.fs.length) 0 (p.fs.map Fr.fl)).2.map (·.1)) := by
      unfold Pt.victim
      rw [hhn, Int.toNat_natCast]
    generalize turnFrom hn (2 * p.fs.length) 0 (p.fs.map Fr.fl) = r at *
    obtain ⟨gs, r2⟩ := r
    have hlen3 : gs.length = p.fs.length := hlen2
    cases r2 with
    | none =>
      refine aG ?_
      repeat (first | refine gw ?_ | refine gN fun _ => ?_ | refine gB fun _ => ?_ | fail)
      rw [show flat p.fs = flat (setAll p.fs (gs.take 0)) from by rw [List.take_zero, setAll0]]
      refine aLp (fun k ρ1 L1 => ∃ j : Nat, j ≤ p.fs.length ∧ k = p.fs.length - j ∧ ρ1 = [(44, .int .i64 (j : Int)), (43, .int .i64 (p.fs.length : Int)), (9, .slice (some ⟨bo, 0, none⟩) p.fs.length cap'), (0, .pointer (some ⟨b, 0, none⟩)), (7, .int .i64 0), (10, .bool false)] ∧ L1 = [[(b, .cells #[.slice (some ⟨bf, 0, none⟩) p.fs.length p.fs.length, .map (some bm), .int .i64 (hn : Int)] 97 (0, 0))], [(bf, .cells (flat (setAll p.fs (gs.take j))).toArray 58 (0, 0))], [(bm, .map es clock)], [(bo, .cells lo.toArray 55 (0, 0))]]) (o := ⟨0, Nat.zero_le _, rfl, rfl, rfl⟩) (h := ?_)
      rintro k ρ1 L1 ⟨j, hj, rfl, rfl, rfl⟩
      refine aG ?_
      by_cases hlt : j < p.fs.length
      · refine aT ?_ (hb := by simp; omega)
        have hsl := setAll_len p.fs (gs.take j)
        have hjg : j < gs.length := by omega
        have hnx := setAll_next p.fs gs j hlt hjg
        have hokj := setAll_ok hok (gs.take j)
        have hjs : j < (setAll p.fs (gs.take j)).length := by omega
        have hget : seg? lo (0 + j * 4) 4 = some gs[j].l := own_flag g2 g3 (by omega) hlen3 hjg
        have hw := flags_in hokj hjs gs[j]
        rw [hnx] at hw
        generalize gs[j] = g at hget hw
        refine W.drawTail 9 follows (by decide +kernel) (zG ?_)
        repeat (first | refine zL ?_ | fail)
        refine zV (OpVal.ixSl tab_ok rfl rfl rfl rfl rfl hlt) ?_
        refine zV (OpVal.load (v := g.v) tab_ok rfl (at_own 3 rfl) (by show (match seg? lo (0 + j * 4) 4 with | some vs => some (Value.agg ⟨vs⟩) | none => none) = _; rw [hget]; rfl)) ?_
        refine WZ.nil (aG ?_)
        refine aV (OpVal.ixSl tab_ok rfl rfl rfl rfl rfl hlt) ?_
        refine W.store tab_ok rfl (Upd.there Upd.here) rfl rfl rfl rfl rfl hw (W.step tab_ok rfl rfl ?_)
        refine aV (OpVal.add rfl rfl (i64_in _ (by omega))) ?_
        refine aR (o := ⟨p.fs.length - (j + 1), by omega, j + 1, by omega, rfl, rfl, rfl⟩)
      · refine aF ?_ (hb := by simp; omega)
        have hjn : j = p.fs.length := by omega
        subst hjn
        rw [List.take_of_length_le (by rw [hlen3]; exact Nat.le_refl _)]
        refine W.group [0, 0, 0] rfl rfl ?_
        refine W.ret (fin _ _ (FinOk.first 1 (.tmp rfl (.tmp rfl .nil)) rfl ?_))
        rw [hv]
        refine ⟨rfl, _, rfl, bf, bm, es, clock, ?_, hm⟩
        simp only [setAll_len]
        try rw [hhn]
        try rfl
    | some iq =>
      obtain ⟨i, q⟩ := iq
      refine aG ?_
      repeat (first | refine gw ?_ | refine gN fun _ => ?_ | refine gB fun _ => ?_ | fail)
      rw [show flat p.fs = flat (setAll p.fs (gs.take 0)) from by rw [List.take_zero, setAll0]]
      refine aLp (fun k ρ1 L1 => ∃ j : Nat, j ≤ p.fs.length ∧ k = p.fs.length - j ∧ ρ1 = [(44, .int .i64 (j : Int)), (43, .int .i64 (p.fs.length : Int)), (9, .slice (some ⟨bo, 0, none⟩) p.fs.length cap'), (0, .pointer (some ⟨b, 0, none⟩)), (7, .int .i64 (i : Int)), (10, .bool true)] ∧ L1 = [[(b, .cells #[.slice (some ⟨bf, 0, none⟩) p.fs.length p.fs.length, .map (some bm), .int .i64 (((i + 1) % p.fs.length : Nat) : Int)] 97 (0, 0))], [(bf, .cells (flat (setAll p.fs (gs.take j))).toArray 58 (0, 0))], [(bm, .map es clock)], [(bo, .cells lo.toArray 55 (0, 0))]]) (o := ⟨0, Nat.zero_le _, rfl, rfl, rfl⟩) (h := ?_)
      rintro k ρ1 L1 ⟨j, hj, rfl, rfl, rfl⟩
      refine aG ?_
      by_cases hlt : j < p.fs.length
      · refine aT ?_ (hb := by simp; omega)
        have hsl := setAll_len p.fs (gs.take j)
        have hjg : j < gs.length := by omega
        have hnx := setAll_next p.fs gs j hlt hjg
        have hokj := setAll_ok hok (gs.take j)
        have hjs : j < (setAll p.fs (gs.take j)).length := by omega
        have hget : seg? lo (0 + j * 4) 4 = some gs[j].l := own_flag g2 g3 (by omega) hlen3 hjg
        have hw := flags_in hokj hjs gs[j]
        rw [hnx] at hw
        generalize gs[j] = g at hget hw
        refine W.drawTail 9 follows (by decide +kernel) (zG ?_)
        repeat (first | refine zL ?_ | fail)
        refine zV (OpVal.ixSl tab_ok rfl rfl rfl rfl rfl hlt) ?_
        refine zV (OpVal.load (v := g.v) tab_ok rfl (at_own 3 rfl) (by show (match seg? lo (0 + j * 4) 4 with | some vs => some (Value.agg ⟨vs⟩) | none => none) = _; rw [hget]; rfl)) ?_
        refine WZ.nil (aG ?_)
        refine aV (OpVal.ixSl tab_ok rfl rfl rfl rfl rfl hlt) ?_
        refine W.store tab_ok rfl (Upd.there Upd.here) rfl rfl rfl rfl rfl hw (W.step tab_ok rfl rfl ?_)
        refine aV (OpVal.add rfl rfl (i64_in _ (by omega))) ?_
        refine aR (o := ⟨p.fs.length - (j + 1), by omega, j + 1, by omega, rfl, rfl, rfl⟩)
      · refine aF ?_ (hb := by simp; omega)
        have hjn : j = p.fs.length := by omega
        subst hjn
        rw [List.take_of_length_le (by rw [hlen3]; exact Nat.le_refl _)]
        refine W.group [0, 0, 0] rfl rfl ?_
        refine W.ret (fin _ _ (FinOk.first 1 (.tmp rfl (.tmp rfl .nil)) rfl ?_))
        rw [hv]
        refine ⟨rfl, _, rfl, bf, bm, es, clock, ?_, hm⟩
        simp only [setAll_len]
        try rw [hhn]
        try rfl
end Go.Proofs.Ytgipjpiiomgjjaa
