/-
  The device of the document: its lists; Read, Lasting, with, Write, Later.
-/
import Derived.Test.YtpimbaphenignaaVj
namespace Go.Proofs.Ytpimbaphenignaa
open Go Go.Sl Go.IntWalk
set_option maxHeartbeats 8000000
set_option maxRecDepth 20000
set_option linter.unusedVariables false
theorem ROpen_spec (c : List Int) (hu : u8ok c) (h20 : c.length = 20) (a : Option Addr) (cap : Nat) (hcap : c.length ≤ cap) (ro : HL) (hro : RoSl 1 (u8s c) a c.length ro) :
    Ctr Try.prog 47 [.slice a c.length cap] [] ro (fun v L' => ∃ a' cap' r, v = .tuple #[.slice a' (cOpen c).1.length cap', .int .i64 (cOpen c).2] ∧ L' = [] ∧ RoSl 1 (u8s (cOpen c).1) a' (cOpen c).1.length r ∧ ∀ q ∈ r, q ∈ ro) := by
  have hG := RGood_spec c hu h20 a cap hcap ro hro
  have hz : (c.length : Int) = 20 := by omega
  have hro2 : RoSl 1 (u8s (c.take 16)) a 16 ro := RoSl.take (f := fun x => [Value.int .u8 x]) (fun _ => rfl) hro _ (by omega)
  have hl2 : (c.take 16).length = 16 := by rw [List.length_take]; omega
  have hop : cOpen c = cOpen c := rfl
  conv at hop => rhs; unfold cOpen
  rw [if_neg (by omega)] at hop
  generalize cOpen c = out at *
  refine Ctr.enter (n := 14) [.tmp 2, .tmp 3] [(0, _)] Try.func47 rfl rfl rfl (lb rfl) Try.call47 ⟨rfl, trivial⟩ ?_
  intro cx fin fin0
  refine aG ?_
  repeat (first | refine gh hz ?_ | refine gN fun _ => ?_ | refine gB fun _ => ?_ | fail)
  refine aC (o := hG) (h := ?_) (hro := RoIn.all (fun q hq => hq))
  rintro _ _ ⟨rfl, rfl⟩
  refine aG ?_
  by_cases hq : sealB (c.take 16) = c
  · rw [if_pos hq] at hop
    subst hop
    repeat (first | refine gh hq ?_ | refine gN fun _ => ?_ | refine gB fun _ => ?_ | fail)
    refine aV (OpVal.front tab_ok rfl rfl rfl rfl (show ((16 : Int)) = ((16 : Nat) : Int) from rfl) (by omega)) ?_
    refine W.ret (fin _ _ (FinOk.first 0 (.tmp rfl (.tmp rfl .nil)) rfl ?_))
    exact ⟨_, _, ro, by simp only [pack]; rw [hl2], rfl, by simp only; rw [hl2]; exact hro2, fun q hq => hq⟩
  · rw [if_neg hq] at hop
    subst hop
    repeat (first | refine gh hq ?_ | refine gN fun _ => ?_ | refine gB fun _ => ?_ | fail)
    refine W.ret (fin _ _ (FinOk.first 0 (.tmp rfl (.tmp rfl .nil)) rfl ?_))
    exact ⟨_, _, [], rfl, rfl, ⟨rfl, .inl ⟨rfl, rfl⟩⟩, fun q hq => by cases hq⟩
def clsV (l : List Cl) : List Value := l.flatMap fun c => [c.v]
theorem clsV_len (l : List Cl) : (clsV l).length = l.length * 1 := flatMap_len (fun c : Cl => [c.v]) 1 (fun _ => rfl) l
theorem clsV_one (l : List Cl) : allOne (clsV l) = true := allOne_of fun v hv => by
  obtain ⟨x, -, hx⟩ := List.mem_flatMap.1 hv
  rw [List.mem_singleton.1 hx]
  rfl
/-- A list of lists of bytes, in memory. -/
def ListIn (D : HL) (ls : List (List Int)) (a : Option Addr) : Prop := ∃ (cls : List Cl) (r : HL), cls.map Cl.xs = ls ∧ RoSl 1 (clsV cls) a ls.length r ∧ (∀ q ∈ r, q ∈ D) ∧ ∀ c ∈ cls, ClIn D c
theorem ListIn.mono {D D' : HL} {ls : List (List Int)} {a : Option Addr} (h : ListIn D ls a) (hs : ∀ q ∈ D, q ∈ D') : ListIn D' ls a := by
  obtain ⟨cls, r, h1, h2, h3, h4⟩ := h
  exact ⟨cls, r, h1, h2, fun q hq => hs q (h3 q hq), fun c hc => (h4 c hc).mono hs⟩
theorem ListIn.at_ {D : HL} {ls : List (List Int)} {a : Option Addr} (h : ListIn D ls a) {i : Nat} (hi : i < ls.length) :
    ∃ bx ox lx ex frx c, a = some ⟨bx, ox, none⟩ ∧ (bx, Obj.cells (List.toArray lx) ex frx) ∈ D ∧ lx[ox + i * 1]? = some (Cl.v c) ∧ c.xs = ls[i] ∧ ClIn D c := by
  obtain ⟨cls, r, rfl, h2, h3, h4⟩ := h
  rw [List.length_map] at h2 hi
  obtain ⟨bx, ox, lx, ex, frx, h5, h6, -, hld⟩ := RoSl.at (f := fun c : Cl => [c.v]) (m := 1) (fun _ => rfl) h2 hi
  exact ⟨bx, ox, lx, ex, frx, cls[i], h5, h3 _ (by rw [h6]; simp), hld 0 (by decide), by simp, h4 _ (List.getElem_mem hi)⟩
def DocD (d : Dv) (v : Value) (D : HL) : Prop := ∃ a c at_ ct ah ch, v = .agg (List.toArray [.slice a d.lasts.length c, .slice at_ d.later.length ct, .slice ah d.head.length ch]) ∧ ListIn D d.lasts a ∧ ListIn D d.later at_ ∧ ClIn D ⟨ah, ch, d.head⟩
theorem DocD.mono {d : Dv} {v : Value} {D D' : HL} (h : DocD d v D) (hs : ∀ q ∈ D, q ∈ D') : DocD d v D' := by
  obtain ⟨a, c, at_, ct, ah, ch, h1, h2, h3, h4⟩ := h
  exact ⟨a, c, at_, ct, ah, ch, h1, h2.mono hs, h3.mono hs, h4.mono hs⟩
def TwoIn (ro : HL) (r : List Int × Int) (v : Value) (L' : List HL) : Prop := ∃ a' cap' q, v = .tuple #[.slice a' r.1.length cap', .int .i64 r.2] ∧ L' = [] ∧ RoSl 1 (u8s r.1) a' r.1.length q ∧ ∀ x ∈ q, x ∈ ro
theorem RLasting_spec (d : Dv) (hd : d.Ok) (v : Value) (D : HL) (h : DocD d v D) (i : Int) : Ctr Try.prog 28 [v, .int .i64 i] [] D (TwoIn D (d.lasting i)) := by
  obtain ⟨a, c, at_, ct, ah, ch, rfl, h2, h3, h4⟩ := h
  have hop : d.lasting i = d.lasting i := rfl
  conv at hop => rhs; unfold Dv.lasting
  generalize d.lasting i = out at *
  by_cases h0 : i < 0
  · rw [if_neg (by unfold Dv.in_; omega)] at hop
    subst hop
    refine Ctr.enter (n := 23) [.tmp 4, .tmp 5] [(0, _), (1, _)] Try.func28 rfl rfl rfl (lb rfl) Try.call28 ⟨rfl, rfl, trivial⟩ ?_
    intro cx fin fin0
    refine aG ?_
    repeat (first | refine gh h0 ?_ | refine gN fun _ => ?_ | refine gB fun _ => ?_ | fail)
    refine W.ret (fin _ _ (FinOk.first 0 (.tmp rfl (.tmp rfl .nil)) rfl ?_))
    exact ⟨_, _, [], rfl, rfl, ⟨rfl, .inl ⟨rfl, rfl⟩⟩, fun q hq => by cases hq⟩
  · by_cases h1 : i ≥ (d.lasts.length : Int)
    · rw [if_neg (by unfold Dv.in_; omega)] at hop
      subst hop
      refine Ctr.enter (n := 23) [.tmp 4, .tmp 5] [(0, _), (1, _)] Try.func28 rfl rfl rfl (lb rfl) Try.call28 ⟨rfl, rfl, trivial⟩ ?_
      intro cx fin fin0
      refine aG ?_
      repeat (first | refine gh (gc2 h0 h1) ?_ | refine gN fun _ => ?_ | refine gB fun _ => ?_ | fail)
      refine W.ret (fin _ _ (FinOk.first 0 (.tmp rfl (.tmp rfl .nil)) rfl ?_))
      exact ⟨_, _, [], rfl, rfl, ⟨rfl, .inl ⟨rfl, rfl⟩⟩, fun q hq => by cases hq⟩
    · have hi : d.in_ i := ⟨by omega, by omega⟩
      rw [if_pos hi] at hop
      subst hop
      obtain ⟨j, rfl⟩ : ∃ j : Nat, i = (j : Int) := ⟨i.toNat, by omega⟩
      have hj : j < d.lasts.length := by omega
      obtain ⟨bx, ox, lx, ex, frx, cc, rfl, hmem, l0, hcx, h5, r, h6, h7⟩ := h2.at_ hj
      have hla : d.last (j : Int) = cc.xs := by
        unfold Dv.last
        rw [Int.toNat_natCast, List.getD_eq_getElem?_getD, List.getElem?_eq_getElem hj, Option.getD_some, hcx]
      obtain ⟨g1, g2⟩ := hd.last hi
      rw [hla] at g1 g2 ⊢
      have hO := ROpen_spec cc.xs g2 g1 cc.a cc.cap h5 r h6
      refine Ctr.enter (n := 23) [.tmp 4, .tmp 5] [(0, _), (1, _)] Try.func28 rfl rfl rfl (lb rfl) Try.call28 ⟨rfl, rfl, trivial⟩ ?_
      intro cx fin fin0
      refine aG ?_
      repeat (first | refine gh (gc2 h0 h1) ?_ | refine gN fun _ => ?_ | refine gB fun _ => ?_ | fail)
      refine aV (OpVal.ixI tab_ok rfl rfl rfl rfl rfl hj) ?_
      refine aV (OpVal.load tab_ok rfl (show At _ _ bx (.cells lx.toArray ex frx) from .inr hmem) l0) ?_
      refine aC (o := hO) (h := ?_) (hro := RoIn.all (fun q hq => h7 q hq))
      rintro _ _ ⟨a2, c2, r2, rfl, rfl, h8, h9⟩
      refine aG ?_
      repeat (first | refine gx ?_ | refine gN fun _ => ?_ | refine gB fun _ => ?_ | fail)
      refine W.ret (fin _ _ (FinOk.first 0 (.tmp rfl (.tmp rfl .nil)) rfl ?_))
      exact ⟨_, _, r2, rfl, rfl, h8, fun q hq => h7 q (h9 q hq)⟩
theorem RRead_spec (d : Dv) (hd : d.Ok) (v : Value) (D : HL) (h : DocD d v D) (i : Int) : Ctr Try.prog 27 [v, .int .i64 i] [] D (TwoIn D (d.read i)) := by
  obtain ⟨a, c, at_, ct, ah, ch, rfl, h2, h3, h4⟩ := h
  have hop : d.read i = d.read i := rfl
  conv at hop => rhs; unfold Dv.read
  generalize d.read i = out at *
  by_cases h0 : i < 0
  · rw [if_neg (by unfold Dv.in_; omega)] at hop
    subst hop
    refine Ctr.enter (n := 38) [.tmp 4, .tmp 5] [(0, _), (1, _)] Try.func27 rfl rfl rfl (lb rfl) Try.call27 ⟨rfl, rfl, trivial⟩ ?_
    intro cx fin fin0
    refine aG ?_
    repeat (first | refine gh h0 ?_ | refine gN fun _ => ?_ | refine gB fun _ => ?_ | fail)
    refine W.ret (fin _ _ (FinOk.first 0 (.tmp rfl (.tmp rfl .nil)) rfl ?_))
    exact ⟨_, _, [], rfl, rfl, ⟨rfl, .inl ⟨rfl, rfl⟩⟩, fun q hq => by cases hq⟩
  · by_cases h1 : i ≥ (d.lasts.length : Int)
    · rw [if_neg (by unfold Dv.in_; omega)] at hop
      subst hop
      refine Ctr.enter (n := 38) [.tmp 4, .tmp 5] [(0, _), (1, _)] Try.func27 rfl rfl rfl (lb rfl) Try.call27 ⟨rfl, rfl, trivial⟩ ?_
      intro cx fin fin0
      refine aG ?_
      repeat (first | refine gh (gc2 h0 h1) ?_ | refine gN fun _ => ?_ | refine gB fun _ => ?_ | fail)
      refine W.ret (fin _ _ (FinOk.first 0 (.tmp rfl (.tmp rfl .nil)) rfl ?_))
      exact ⟨_, _, [], rfl, rfl, ⟨rfl, .inl ⟨rfl, rfl⟩⟩, fun q hq => by cases hq⟩
    · have hi : d.in_ i := ⟨by omega, by omega⟩
      rw [if_pos hi] at hop
      obtain ⟨j, rfl⟩ : ∃ j : Nat, i = (j : Int) := ⟨i.toNat, by omega⟩
      have hj : j < d.lasts.length := by omega
      have hj2 : j < d.later.length := by rw [hd.len]; exact hj
      obtain ⟨bx, ox, lx, ex, frx, cc, rfl, hmem, l0, hcx, h5, r, h6, h7⟩ := h2.at_ hj
      obtain ⟨by_, oy, ly, ey, fry, ce, rfl, hmem2, l2, hce, h5b, rb, h6b, h7b⟩ := h3.at_ hj2
      have hla : d.last (j : Int) = cc.xs := by
        unfold Dv.last
        rw [Int.toNat_natCast, List.getD_eq_getElem?_getD, List.getElem?_eq_getElem hj, Option.getD_some, hcx]
      have hle : d.late (j : Int) = ce.xs := by
        unfold Dv.late
        rw [Int.toNat_natCast, List.getD_eq_getElem?_getD, List.getElem?_eq_getElem hj2, Option.getD_some, hce]
      obtain ⟨g1, g2⟩ := hd.last hi
      have gl := hd.late hi
      rw [hla] at g1 g2 hop
      rw [hle] at gl hop
      by_cases hz : ce.xs = []
      · have hl0 : ¬ ((ce.xs.length : Nat) : Int) > 0 := by rw [hz]; decide
        rw [if_pos hz] at hop
        subst hop
        have hO := ROpen_spec cc.xs g2 g1 cc.a cc.cap h5 r h6
        refine Ctr.enter (n := 38) [.tmp 4, .tmp 5] [(0, _), (1, _)] Try.func27 rfl rfl rfl (lb rfl) Try.call27 ⟨rfl, rfl, trivial⟩ ?_
        intro cx fin fin0
        refine aG ?_
        repeat (first | refine gh (gc2 h0 h1) ?_ | refine gN fun _ => ?_ | refine gB fun _ => ?_ | fail)
        refine aV (OpVal.ixI tab_ok rfl rfl rfl rfl rfl hj2) ?_
        refine aV (OpVal.load tab_ok rfl (show At _ _ by_ (.cells ly.toArray ey fry) from .inr hmem2) l2) ?_
        repeat (first | refine gh hl0 ?_ | refine gN fun _ => ?_ | refine gB fun _ => ?_ | fail)
        refine aV (OpVal.ixI tab_ok rfl rfl rfl rfl rfl hj) ?_
        refine aV (OpVal.load tab_ok rfl (show At _ _ bx (.cells lx.toArray ex frx) from .inr hmem) l0) ?_
        refine aC (o := hO) (h := ?_) (hro := RoIn.all (fun q hq => h7 q hq))
        rintro _ _ ⟨a2, c2, r2, rfl, rfl, h8, h9⟩
        refine aG ?_
        repeat (first | refine gx ?_ | refine gN fun _ => ?_ | refine gB fun _ => ?_ | fail)
        refine W.ret (fin _ _ (FinOk.first 0 (.tmp rfl (.tmp rfl .nil)) rfl ?_))
        exact ⟨_, _, r2, rfl, rfl, h8, fun q hq => h7 q (h9 q hq)⟩
      · rcases gl with g | ⟨g3, g4⟩
        · exact absurd g hz
        have hl0 : ((ce.xs.length : Nat) : Int) > 0 := by omega
        rw [if_neg hz] at hop
        subst hop
        have hO := ROpen_spec ce.xs g4 g3 ce.a ce.cap h5b rb h6b
        refine Ctr.enter (n := 38) [.tmp 4, .tmp 5] [(0, _), (1, _)] Try.func27 rfl rfl rfl (lb rfl) Try.call27 ⟨rfl, rfl, trivial⟩ ?_
        intro cx fin fin0
        refine aG ?_
        repeat (first | refine gh (gc2 h0 h1) ?_ | refine gN fun _ => ?_ | refine gB fun _ => ?_ | fail)
        refine aV (OpVal.ixI tab_ok rfl rfl rfl rfl rfl hj2) ?_
        refine aV (OpVal.load tab_ok rfl (show At _ _ by_ (.cells ly.toArray ey fry) from .inr hmem2) l2) ?_
        repeat (first | refine gh hl0 ?_ | refine gN fun _ => ?_ | refine gB fun _ => ?_ | fail)
        refine aV (OpVal.ixI tab_ok rfl rfl rfl rfl rfl hj2) ?_
        refine aV (OpVal.load tab_ok rfl (show At _ _ by_ (.cells ly.toArray ey fry) from .inr hmem2) l2) ?_
        refine aC (o := hO) (h := ?_) (hro := RoIn.all (fun q hq => h7b q hq))
        rintro _ _ ⟨a2, c2, r2, rfl, rfl, h8, h9⟩
        refine aG ?_
        repeat (first | refine gx ?_ | refine gN fun _ => ?_ | refine gB fun _ => ?_ | fail)
        refine W.ret (fin _ _ (FinOk.first 0 (.tmp rfl (.tmp rfl .nil)) rfl ?_))
        exact ⟨_, _, r2, rfl, rfl, h8, fun q hq => h7b q (h9 q hq)⟩
theorem With_spec (ls : List (List Int)) (hl : ls.length ≤ 1024) (a : Option Addr) (cap : Nat) (D : HL) (h : ListIn D ls a) (i : Nat) (hi : i < ls.length) (c : Cl) (hc : ClIn D c) :
    Ctr Try.prog 56 [.slice a ls.length cap, .int .i64 (i : Int), c.v] [] D (fun v L' => ∃ a' cap' H', v = .slice a' (ls.set i c.xs).length cap' ∧ L' = [H'] ∧ ListIn (H' ++ D) (ls.set i c.xs) a') := by
  obtain ⟨cls, r, rfl, h2, h3, h4⟩ := h
  rw [List.length_map] at h2 hi hl ⊢
  have e : (cls.map Cl.xs).set i c.xs = (cls.set i c).map Cl.xs := by rw [List.map_set]
  rw [e]
  simp only [List.length_map, List.length_set]
  refine Ctr.enter (n := 16) [.tmp 6] [(0, _), (1, _), (2, _)] Try.func56 rfl rfl rfl (lb rfl) Try.call56 ⟨rfl, rfl, rfl, trivial⟩ ?_
  intro cx fin fin0
  refine aG ?_
  refine W.nilChunk ?_
  refine aPr (appRo (cs := []) tab_ok rfl rfl rfl (Own.nil 1 30) (by intro p hp; cases hp) rfl h2 (fun q hq => .inr (h3 q hq)) (clsV_one cls) (by omega) (by omega)) ?_
  rintro _ _ ⟨a1, c1, H1, rfl, rfl, how⟩
  refine aG ?_
  obtain ⟨b5, lx, rfl, rfl, hcap, hlen, ht⟩ := how.some (by omega)
  rw [Nat.mul_one] at hlen ht
  rw [Nat.zero_add] at *
  repeat (first | refine gx ?_ | refine gN fun _ => ?_ | refine gB fun _ => ?_ | fail)
  refine aV (OpVal.ixI tab_ok rfl rfl rfl rfl rfl hi) ?_
  refine W.store tab_ok rfl Upd.here rfl rfl rfl rfl rfl (splice_set (by omega) _) (aG ?_)
  repeat (first | refine gx ?_ | refine gN fun _ => ?_ | refine gB fun _ => ?_ | fail)
  refine W.ret (fin _ _ (FinOk.first 1 (.tmp rfl .nil) rfl ?_))
  refine ⟨_, _, _, rfl, rfl, cls.set i c, _, rfl, ⟨by rw [clsV_len, List.length_map, List.length_set], .inr ⟨b5, 0, _, _, _, rfl, rfl, by rw [List.length_map, List.length_set, List.length_set]; omega, ?_⟩⟩, fun q hq => List.mem_append_left _ hq, fun x hx => ?_⟩
  · rw [List.drop_zero, Nat.mul_one, List.length_map, List.length_set, List.take_set, ht, List.nil_append]
    unfold clsV
    have : ∀ l : List Cl, l.flatMap (fun c => [c.v]) = l.map Cl.v := fun l => by induction l with | nil => rfl | cons x l ih => simp [ih]
    rw [this, this, List.map_set]
  · rcases List.mem_or_eq_of_mem_set hx with h | rfl
    · exact (h4 x h).mono fun q hq => List.mem_append_right _ hq
    · exact hc.mono fun q hq => List.mem_append_right _ hq
end Go.Proofs.Ytpimbaphenignaa
