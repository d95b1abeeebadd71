/-
  The device of the program: its state; Len, in, lasting, Lasting, Read, Head.
-/
import Derived.Test.YtpimbaphenignaaVs
import Derived.Test.YtpimbaphenignaaAr
import Derived.Test.YtpimbaphenignaaPk
namespace Go.Proofs.Ytpimbaphenignaa
open Go Go.Sl Go.IntWalk
set_option maxHeartbeats 4000000
set_option maxRecDepth 20000
set_option linter.unusedVariables false
/-- Sectors: cells that last, later ones (empty: there is none), the head. -/
structure Dv where
  lasts : List (List Int)
  later : List (List Int)
  head : List Int
def zcell : List Int := sealB (List.replicate 16 0)
theorem z16_ok : u8ok (List.replicate 16 0) := fun b hb => by rw [List.eq_of_mem_replicate hb]; omega
theorem zcell_len : zcell.length = 20 := by unfold zcell; rw [sealB_len]; rfl
theorem zcell_ok : u8ok zcell := sealB_ok z16_ok
structure Dv.Ok (d : Dv) : Prop where
  len : d.later.length = d.lasts.length
  n : 1 ≤ d.lasts.length ∧ d.lasts.length ≤ 1024
  lu : ∀ c ∈ d.lasts, c.length = 20 ∧ u8ok c
  tu : ∀ c ∈ d.later, c = [] ∨ (c.length = 20 ∧ u8ok c)
  hu : u8ok d.head
  hl : d.head.length ≤ 100000
def Dv.last (d : Dv) (i : Int) : List Int := d.lasts.getD i.toNat []
def Dv.late (d : Dv) (i : Int) : List Int := d.later.getD i.toNat []
def Dv.in_ (d : Dv) (i : Int) : Prop := 0 ≤ i ∧ i < d.lasts.length
instance (d : Dv) (i : Int) : Decidable (d.in_ i) := by unfold Dv.in_; infer_instance
structure Cl where
  a : Option Addr
  cap : Nat
  xs : List Int
def Cl.v (c : Cl) : Value := .slice c.a c.xs.length c.cap
def ClIn (D : HL) (c : Cl) : Prop := c.xs.length ≤ c.cap ∧ ∃ r, RoSl 1 (u8s c.xs) c.a c.xs.length r ∧ ∀ q ∈ r, q ∈ D
theorem ClIn.mono {D D' : HL} {c : Cl} (h : ClIn D c) (hs : ∀ q ∈ D, q ∈ D') : ClIn D' c := by
  obtain ⟨h1, r, h2, h3⟩ := h
  exact ⟨h1, r, h2, fun q hq => hs q (h3 q hq)⟩
/-- What the maps hold is what the lists hold. -/
structure Reads (d : Dv) (tl tt : List (Int × Cl)) (D : HL) : Prop where
  lasts : ∀ i, d.in_ i → d.last i = (match mget tl i with | some c => c.xs | none => zcell)
  later : ∀ i, d.in_ i → d.late i = (match mget tt i with | some c => c.xs | none => [])
  keys : ∀ i c, mget tt i = some c → d.in_ i ∧ c.xs.length = 20
  nd : (tt.map (·.1)).Nodup
  ndl : (tl.map (·.1)).Nodup
  inl : ∀ i c, mget tl i = some c → ClIn D c
  int : ∀ i c, mget tt i = some c → ClIn D c
def DevAt (d : Dv) (b : Nat) (H : HL) : Prop := ∃ bl bt ah ch tl tt Hl Ht D,
  H = [(b, Obj.cells (List.toArray [.int .i64 d.lasts.length, .map (some bl), .map (some bt), .slice ah d.head.length ch]) 63 (0, 0))] ++ (Hl ++ (Ht ++ D)) ∧
  IsMp .i64 Cl.v tl bl Hl ∧ IsMq .i64 Cl.v tt bt Ht ∧ Reads d tl tt D ∧ ClIn D ⟨ah, ch, d.head⟩
theorem DevAt.head {d : Dv} {b : Nat} {H : HL} (h : DevAt d b H) : ∃ bl bt ah ch, (b, Obj.cells (List.toArray [.int .i64 d.lasts.length, .map (some bl), .map (some bt), .slice ah d.head.length ch]) 63 (0, 0)) ∈ H := by
  obtain ⟨bl, bt, ah, ch, tl, tt, Hl, Ht, D, rfl, -⟩ := h
  exact ⟨bl, bt, ah, ch, List.mem_append_left _ (List.mem_singleton.2 rfl)⟩
theorem DLen_spec (d : Dv) (b : Nat) (H : HL) (h : DevAt d b H) : Ctr Try.prog 20 [.pointer (some ⟨b, 0, none⟩)] [] H (fun v L' => v = .int .i64 (d.lasts.length : Int) ∧ L' = []) := by
  obtain ⟨bl, bt, ah, ch, hb⟩ := h.head
  refine Ctr.enter (n := 7) [.tmp 2] [(0, _)] Try.func20 rfl rfl rfl (lb rfl) Try.call20 ⟨rfl, trivial⟩ ?_
  intro cx fin fin0
  refine aG ?_
  refine aV (OpVal.load tab_ok rfl (.inr hb) rfl) ?_
  repeat (first | refine gx ?_ | refine gN fun _ => ?_ | refine gB fun _ => ?_ | fail)
  refine W.ret (fin _ _ (FinOk.first 0 (.tmp rfl .nil) rfl ?_))
  exact ⟨rfl, rfl⟩
theorem Din_spec (d : Dv) (b : Nat) (H : HL) (h : DevAt d b H) (i : Int) : Ctr Try.prog 30 [.pointer (some ⟨b, 0, none⟩), .int .i64 i] [] H (fun v L' => v = .bool (decide (d.in_ i)) ∧ L' = []) := by
  obtain ⟨bl, bt, ah, ch, hb⟩ := h.head
  by_cases h0 : 0 ≤ i
  · refine Ctr.enter (n := 15) [.tmp 4] [(0, _), (1, _)] Try.func30 rfl rfl rfl (lb rfl) Try.call30 ⟨rfl, rfl, trivial⟩ ?_
    intro cx fin fin0
    refine aG ?_
    repeat (first | refine gh h0 ?_ | refine gN fun _ => ?_ | refine gB fun _ => ?_ | fail)
    refine aV (OpVal.load tab_ok rfl (.inr hb) rfl) ?_
    repeat (first | refine gh h0 ?_ | refine gN fun _ => ?_ | refine gB fun _ => ?_ | fail)
    refine W.ret (fin _ _ (FinOk.first 0 (.tmp rfl .nil) rfl ?_))
    exact ⟨by simp [pack, Dv.in_, h0], rfl⟩
  · refine Ctr.enter (n := 15) [.tmp 4] [(0, _), (1, _)] Try.func30 rfl rfl rfl (lb rfl) Try.call30 ⟨rfl, rfl, trivial⟩ ?_
    intro cx fin fin0
    refine aG ?_
    repeat (first | refine gh h0 ?_ | refine gN fun _ => ?_ | refine gB fun _ => ?_ | fail)
    refine W.ret (fin _ _ (FinOk.first 0 (.tmp rfl .nil) rfl ?_))
    exact ⟨by simp [pack, Dv.in_, h0], rfl⟩
/-- The cell that lasts, wherever it lies. -/
theorem Dlasting_spec (d : Dv) (hd : d.Ok) (b : Nat) (H : HL) (h : DevAt d b H) (i : Int) (hi : d.in_ i) : Ctr Try.prog 37 [.pointer (some ⟨b, 0, none⟩), .int .i64 i] [] H
    (fun v L' => ∃ a cap H' r, v = .slice a 20 cap ∧ L' = [H'] ∧ 20 ≤ cap ∧ RoSl 1 (u8s (d.last i)) a 20 r ∧ ∀ q ∈ r, q ∈ H' ++ H) := by
  obtain ⟨bl, bt, ah, ch, tl, tt, Hl, Ht, D, rfl, ⟨es, clock, rfl, hm⟩, hq, hr, hh⟩ := h
  have hl := hr.lasts i hi
  have hlen : (d.last i).length = 20 := by
    have := hd.lu (d.last i) (by
      unfold Dv.last
      rw [List.getD_eq_getElem?_getD, List.getElem?_eq_getElem (show i.toNat < d.lasts.length by unfold Dv.in_ at hi; omega), Option.getD_some]
      exact List.getElem_mem _)
    exact this.1
  have hat : ∀ L (x : Nat × Obj), x ∈ (([(b, Obj.cells (List.toArray [.int .i64 d.lasts.length, .map (some bl), .map (some bt), .slice ah d.head.length ch]) 63 (0, 0))] ++ ([(bl, Obj.map es clock)] ++ (Ht ++ D)) : HL)) → At _ L x.1 x.2 := fun L x hx => .inr hx
  refine Ctr.enter (n := 26) [.tmp 4] [(0, _), (1, _)] Try.func37 rfl rfl rfl (lb rfl) Try.call37 ⟨rfl, rfl, trivial⟩ ?_
  intro cx fin fin0
  refine aG ?_
  refine aV (OpVal.load tab_ok rfl (hat _ (b, _) (List.mem_append_left _ (List.mem_singleton.2 rfl))) rfl) ?_
  refine aV (OpVal.lookup2 (f := Cl.v) Try.underlying61 Try.underlying3 ze_30 rfl rfl (hat _ (bl, .map es clock) (List.mem_append_right _ (List.mem_append_left _ (List.mem_singleton.2 rfl)))) hm) ?_
  cases hg : mget tl i with
  | some c =>
    rw [hg] at hl
    simp only at hl
    obtain ⟨c1, r, c2, c3⟩ := hr.inl i c hg
    rw [← hl, hlen] at c1 c2
    have hv : Cl.v c = .slice c.a 20 c.cap := by unfold Cl.v; rw [← hl, hlen]
    repeat (first | refine gx ?_ | refine gN fun _ => ?_ | refine gB fun _ => ?_ | fail)
    refine W.nilChunk ?_
    refine W.ret (fin _ _ (FinOk.first 1 (.tmp rfl .nil) rfl ?_))
    exact ⟨_, _, _, r, hv, rfl, c1, c2, fun q hq => by simp only [List.mem_append]; exact .inr (.inr (.inr (.inr (c3 q hq))))⟩
  | none =>
    rw [hg] at hl
    simp only at hl
    have hS := fun bz => Seal_spec (List.replicate 16 0) z16_ok (some ⟨bz, 0, none⟩) 16 _ (roOwn bz (List.replicate 16 0) 5)
    repeat (first | refine gx ?_ | refine gN fun _ => ?_ | refine gB fun _ => ?_ | fail)
    refine aC (o := Zero_spec) (h := ?_)
    rintro _ _ ⟨bz, rfl, rfl⟩
    refine aG ?_
    refine aC (o := hS bz) (h := ?_)
    rintro _ _ (⟨hn, -⟩ | ⟨-, a, cap, H', rfl, rfl, ho⟩)
    · exact absurd rfl hn
    refine aG ?_
    repeat (first | refine gx ?_ | refine gN fun _ => ?_ | refine gB fun _ => ?_ | fail)
    refine W.ret (fin _ _ (FinOk.first 1 (.tmp rfl .nil) rfl ?_))
    exact ⟨_, _, _, H', rfl, rfl, by rcases ho.2 with ⟨_, h, _⟩ | ⟨_, _, _, _, h, _⟩ <;> omega, by rw [hl]; exact Own.roSl ho, fun q hq => by simp [hq]⟩
theorem getD_mem {l : List (List Int)} {i : Int} (h : 0 ≤ i ∧ i < l.length) : l.getD i.toNat [] ∈ l := by
  rw [List.getD_eq_getElem?_getD, List.getElem?_eq_getElem (show i.toNat < l.length by omega), Option.getD_some]
  exact List.getElem_mem _
theorem Dv.Ok.last {d : Dv} (hd : d.Ok) {i : Int} (hi : d.in_ i) : (d.last i).length = 20 ∧ u8ok (d.last i) := hd.lu _ (getD_mem hi)
theorem Dv.Ok.late {d : Dv} (hd : d.Ok) {i : Int} (hi : d.in_ i) : d.late i = [] ∨ ((d.late i).length = 20 ∧ u8ok (d.late i)) := hd.tu _ (getD_mem (by rw [hd.len]; exact hi))
def Dv.lasting (d : Dv) (i : Int) : List Int × Int := if d.in_ i then cOpen (d.last i) else ([], 4)
def Dv.read (d : Dv) (i : Int) : List Int × Int := if d.in_ i then (if d.late i = [] then cOpen (d.last i) else cOpen (d.late i)) else ([], 4)
def TwoOwn (r : List Int × Int) (v : Value) (L' : List HL) : Prop := ∃ a' cap' H', v = .tuple #[.slice a' r.1.length cap', .int .i64 r.2] ∧ L' = [H'] ∧ Own 1 5 (u8s r.1) a' r.1.length cap' H'
theorem DLasting_spec (d : Dv) (hd : d.Ok) (b : Nat) (H : HL) (h : DevAt d b H) (i : Int) : Ctr Try.prog 17 [.pointer (some ⟨b, 0, none⟩), .int .i64 i] [] H (TwoOwn (d.lasting i)) := by
  have hin := Din_spec d b H h i
  unfold Dv.lasting
  by_cases hi : d.in_ i
  · rw [if_pos hi]
    have hL := Dlasting_spec d hd b H h i hi
    obtain ⟨h20, hu⟩ := hd.last hi
    have hO := fun a cap hcap r hr => Open_spec (d.last i) hu a cap hcap r hr h20
    rw [h20] at hO
    refine Ctr.enter (n := 16) [.tmp 4, .tmp 5] [(0, _), (1, _)] Try.func17 rfl rfl rfl (lb rfl) Try.call17 ⟨rfl, rfl, trivial⟩ ?_
    intro cx fin fin0
    refine aG ?_
    refine aC (o := hin) (h := ?_) (hro := RoIn.all (fun q hq => hq))
    rintro _ _ ⟨rfl, rfl⟩
    refine aG ?_
    repeat (first | refine gh hi ?_ | refine gN fun _ => ?_ | refine gB fun _ => ?_ | fail)
    refine aC (o := hL) (h := ?_) (hro := RoIn.all (fun q hq => hq))
    rintro _ _ ⟨a, cap, H', r, rfl, rfl, hcap, hr, hsub⟩
    refine aG ?_
    refine aC (o := hO a cap hcap r hr) (h := ?_) (hro := (fun q hq => (List.mem_append.1 (hsub q hq)).elim (fun h => .inl (by simp [h])) .inr))
    rintro _ _ ⟨a2, c2, H2, rfl, rfl, ho⟩
    refine aG ?_
    repeat (first | refine gh hi ?_ | refine gN fun _ => ?_ | refine gB fun _ => ?_ | fail)
    refine W.ret (fin _ _ (FinOk.first 1 (.tmp rfl (.tmp rfl .nil)) rfl ?_))
    exact ⟨_, _, _, rfl, rfl, ho⟩
  · rw [if_neg hi]
    refine Ctr.enter (n := 16) [.tmp 4, .tmp 5] [(0, _), (1, _)] Try.func17 rfl rfl rfl (lb rfl) Try.call17 ⟨rfl, rfl, trivial⟩ ?_
    intro cx fin fin0
    refine aG ?_
    refine aC (o := hin) (h := ?_) (hro := RoIn.all (fun q hq => hq))
    rintro _ _ ⟨rfl, rfl⟩
    refine aG ?_
    repeat (first | refine gh hi ?_ | refine gN fun _ => ?_ | refine gB fun _ => ?_ | fail)
    refine W.nilChunk ?_
    refine W.ret (fin _ _ (FinOk.first 1 (.tmp rfl (.tmp rfl .nil)) rfl ?_))
    exact ⟨_, _, _, rfl, rfl, Own.nil 1 _⟩
theorem DRead_spec (d : Dv) (hd : d.Ok) (b : Nat) (H : HL) (h : DevAt d b H) (i : Int) : Ctr Try.prog 13 [.pointer (some ⟨b, 0, none⟩), .int .i64 i] [] H (TwoOwn (d.read i)) := by
  have hL := DLasting_spec d hd b H h i
  obtain ⟨bl, bt, ah, ch, tl, tt, Hl, Ht, D, rfl, hml, ⟨es, clock, rfl, hm, hbc, hbn⟩, hr, hh⟩ := h
  have hat : ∀ L (x : Nat × Obj), x ∈ (([(b, Obj.cells (List.toArray [.int .i64 d.lasts.length, .map (some bl), .map (some bt), .slice ah d.head.length ch]) 63 (0, 0))] ++ (Hl ++ ([(bt, Obj.map es clock)] ++ D)) : HL)) → At _ L x.1 x.2 := fun L x hx => .inr hx
  have hrd : d.read i = d.read i := rfl
  conv at hrd => rhs; unfold Dv.read
  generalize d.read i = out at *
  refine Ctr.enter (n := 27) [.tmp 4, .tmp 5] [(0, _), (1, _)] Try.func13 rfl rfl rfl (lb rfl) Try.call13 ⟨rfl, rfl, trivial⟩ ?_
  intro cx fin fin0
  refine aG ?_
  refine aV (OpVal.load tab_ok rfl (hat _ (b, _) (List.mem_append_left _ (List.mem_singleton.2 rfl))) rfl) ?_
  refine aV (OpVal.lookup2 (f := Cl.v) Try.underlying61 Try.underlying3 ze_30 rfl rfl (hat _ (bt, .map es clock) (List.mem_append_right _ (List.mem_append_right _ (List.mem_append_left _ (List.mem_singleton.2 rfl))))) hm) ?_
  cases hg : mget tt i with
  | some c =>
    obtain ⟨hi, h20⟩ := hr.keys i c hg
    have hl := hr.later i hi
    rw [hg] at hl
    simp only at hl
    obtain ⟨c1, r, c2, c3⟩ := hr.int i c hg
    have hne : ¬ d.late i = [] := by rw [hl]; intro h0; rw [h0] at h20; simp at h20
    have hu : u8ok c.xs := by
      rcases hd.late hi with h0 | ⟨_, h0⟩
      · exact absurd h0 hne
      · rw [← hl]; exact h0
    have hO := Open_spec c.xs hu c.a c.cap c1 r c2 h20
    rw [if_pos hi, if_neg hne, hl] at hrd
    subst hrd
    repeat (first | refine gx ?_ | refine gN fun _ => ?_ | refine gB fun _ => ?_ | fail)
    refine aC (o := hO) (h := ?_) (hro := (fun q hq => .inr (by simp only [List.mem_append]; exact .inr (.inr (.inr (c3 q hq))))))
    rintro _ _ ⟨a2, c2, H2, rfl, rfl, ho⟩
    refine aG ?_
    repeat (first | refine gx ?_ | refine gN fun _ => ?_ | refine gB fun _ => ?_ | fail)
    refine W.ret (fin _ _ (FinOk.first 1 (.tmp rfl (.tmp rfl .nil)) rfl ?_))
    exact ⟨_, _, _, rfl, rfl, ho⟩
  | none =>
    have he : out = d.lasting i := by
      rw [hrd]
      unfold Dv.lasting
      by_cases hi : d.in_ i
      · have hl := hr.later i hi
        rw [hg] at hl
        simp only at hl
        rw [if_pos hi, if_pos hi, if_pos hl]
      · rw [if_neg hi, if_neg hi]
    subst he
    repeat (first | refine gx ?_ | refine gN fun _ => ?_ | refine gB fun _ => ?_ | fail)
    refine aC (o := hL) (h := ?_) (hro := RoIn.all (fun q hq => hq))
    rintro _ _ ⟨a2, c2, H2, rfl, rfl, ho⟩
    refine aG ?_
    repeat (first | refine gx ?_ | refine gN fun _ => ?_ | refine gB fun _ => ?_ | fail)
    refine W.ret (fin _ _ (FinOk.first 1 (.tmp rfl (.tmp rfl .nil)) rfl ?_))
    exact ⟨_, _, _, rfl, rfl, ho⟩
theorem DHead_spec (d : Dv) (hd : d.Ok) (b : Nat) (H : HL) (h : DevAt d b H) : Ctr Try.prog 21 [.pointer (some ⟨b, 0, none⟩)] [] H
    (fun v L' => ∃ a' cap' H', v = .slice a' d.head.length cap' ∧ L' = [H'] ∧ Own 1 5 (u8s d.head) a' d.head.length cap' H') := by
  obtain ⟨bl, bt, ah, ch, tl, tt, Hl, Ht, D, rfl, hml, hmt, hr, c1, r, c2, c3⟩ := h
  have hat : ∀ L (x : Nat × Obj), x ∈ (([(b, Obj.cells (List.toArray [.int .i64 d.lasts.length, .map (some bl), .map (some bt), .slice ah d.head.length ch]) 63 (0, 0))] ++ (Hl ++ (Ht ++ D)) : HL)) → At _ L x.1 x.2 := fun L x hx => .inr hx
  have hC := BClone_spec d.head (by have := hd.hl; omega) ah ch r c2
  refine Ctr.enter (n := 8) [.tmp 2] [(0, _)] Try.func21 rfl rfl rfl (lb rfl) Try.call21 ⟨rfl, trivial⟩ ?_
  intro cx fin fin0
  refine aG ?_
  refine aV (OpVal.load tab_ok rfl (hat _ (b, _) (List.mem_append_left _ (List.mem_singleton.2 rfl))) rfl) ?_
  refine aC (o := hC) (h := ?_) (hro := (fun q hq => .inr (by simp only [List.mem_append]; exact .inr (.inr (.inr (c3 q hq))))))
  rintro _ _ ⟨a2, c2, H2, rfl, rfl, ho⟩
  refine aG ?_
  repeat (first | refine gx ?_ | refine gN fun _ => ?_ | refine gB fun _ => ?_ | fail)
  refine W.ret (fin _ _ (FinOk.first 1 (.tmp rfl .nil) rfl ?_))
  exact ⟨_, _, _, rfl, rfl, ho⟩
end Go.Proofs.Ytpimbaphenignaa
