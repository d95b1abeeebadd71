/-
  The device of the program: Write, Later.
-/
import Derived.Test.YtpimbaphenignaaVd
namespace Go.Proofs.Ytpimbaphenignaa
open Go Go.Sl Go.IntWalk
set_option maxHeartbeats 4000000
set_option maxRecDepth 20000
set_option linter.unusedVariables false
theorem getD_set {l : List (List Int)} {i j : Int} {x : List Int} (hi : 0 ≤ i ∧ i < l.length) (hj : 0 ≤ j) : (l.set i.toNat x).getD j.toNat [] = if i = j then x else l.getD j.toNat [] := by
  rw [List.getD_eq_getElem?_getD, List.getElem?_set]
  by_cases h : i = j
  · subst h
    rw [if_pos rfl, if_pos rfl, if_pos (by omega)]
    rfl
  · rw [if_neg h, if_neg (by omega), List.getD_eq_getElem?_getD]
def Dv.setLater (d : Dv) (i : Int) (c : List Int) : Dv := ⟨d.lasts, d.later.set i.toNat c, d.head⟩
def Dv.setLast (d : Dv) (i : Int) (c : List Int) : Dv := ⟨d.lasts.set i.toNat c, d.later, d.head⟩
theorem setLater_in {d : Dv} {i j : Int} {c : List Int} : (d.setLater i c).in_ j ↔ d.in_ j := Iff.rfl
theorem setLast_in {d : Dv} {i j : Int} {c : List Int} : (d.setLast i c).in_ j ↔ d.in_ j := by unfold Dv.in_ Dv.setLast; simp
theorem Dv.Ok.setLater {d : Dv} (hd : d.Ok) {i : Int} {c : List Int} (hc : c = [] ∨ (c.length = 20 ∧ u8ok c)) : (d.setLater i c).Ok :=
  ⟨by simp [Dv.setLater, hd.len], hd.n, hd.lu, fun x hx => by
    rcases List.mem_or_eq_of_mem_set hx with h | rfl
    · exact hd.tu x h
    · exact hc, hd.hu, hd.hl⟩
theorem Dv.Ok.setLast {d : Dv} (hd : d.Ok) {i : Int} {c : List Int} (hc : c.length = 20 ∧ u8ok c) : (d.setLast i c).Ok :=
  ⟨by simp [Dv.setLast, hd.len], by simpa [Dv.setLast] using hd.n, fun x hx => by
    rcases List.mem_or_eq_of_mem_set hx with h | rfl
    · exact hd.lu x h
    · exact hc, hd.tu, hd.hu, hd.hl⟩
theorem Reads.mono {d : Dv} {tl tt : List (Int × Cl)} {D D' : HL} (h : Reads d tl tt D) (hs : ∀ q ∈ D, q ∈ D') : Reads d tl tt D' :=
  ⟨h.lasts, h.later, h.keys, h.nd, h.ndl, fun i c hc => (h.inl i c hc).mono hs, fun i c hc => (h.int i c hc).mono hs⟩
theorem Reads.put {d : Dv} {tl tt : List (Int × Cl)} {D : HL} (h : Reads d tl tt D) (hd : d.Ok) {i : Int} (hi : d.in_ i) {c : Cl} (h20 : c.xs.length = 20) (hc : ClIn D c) : Reads (d.setLater i c.xs) tl (mput tt i c) D := by
  refine ⟨h.lasts, fun j hj => ?_, fun j e he => ?_, mput_nd h.nd i c, h.ndl, h.inl, fun j e he => ?_⟩
  · rw [mget_mput]
    have hi' : 0 ≤ i ∧ i < d.later.length := by rw [hd.len]; exact hi
    have : (d.setLater i c.xs).late j = if i = j then c.xs else d.late j := getD_set hi' hj.1
    rw [this]
    by_cases hij : i = j
    · rw [if_pos hij, if_pos hij]
    · rw [if_neg hij, if_neg hij]; exact h.later j hj
  · rw [mget_mput] at he
    split at he
    · rename_i hij; cases he; subst hij; exact ⟨hi, h20⟩
    · exact h.keys j e he
  · rw [mget_mput] at he
    split at he
    · cases he; exact hc
    · exact h.int j e he
theorem Reads.del {d : Dv} {tl tt : List (Int × Cl)} {D : HL} (h : Reads d tl tt D) (hd : d.Ok) {i : Int} (hi : d.in_ i) : Reads (d.setLater i []) tl (mdel tt i) D := by
  refine ⟨h.lasts, fun j hj => ?_, fun j e he => ?_, mdel_nd h.nd i, h.ndl, h.inl, fun j e he => ?_⟩
  · rw [mget_mdel h.nd]
    have hi' : 0 ≤ i ∧ i < d.later.length := by rw [hd.len]; exact hi
    have : (d.setLater i []).late j = if i = j then [] else d.late j := getD_set hi' hj.1
    rw [this]
    by_cases hij : i = j
    · rw [if_pos hij, if_pos hij]
    · rw [if_neg hij, if_neg hij]; exact h.later j hj
  · rw [mget_mdel h.nd] at he
    split at he
    · cases he
    · exact h.keys j e he
  · rw [mget_mdel h.nd] at he
    split at he
    · cases he
    · exact h.int j e he
theorem Reads.putl {d : Dv} {tl tt : List (Int × Cl)} {D : HL} (h : Reads d tl tt D) {i : Int} (hi : d.in_ i) {c : Cl} (hc : ClIn D c) : Reads (d.setLast i c.xs) (mput tl i c) tt D := by
  refine ⟨fun j hj => ?_, fun j hj => h.later j (setLast_in.1 hj), fun j e he => ⟨setLast_in.2 (h.keys j e he).1, (h.keys j e he).2⟩, h.nd, mput_nd h.ndl i c, fun j e he => ?_, h.int⟩
  · rw [mget_mput]
    have : (d.setLast i c.xs).last j = if i = j then c.xs else d.last j := getD_set hi hj.1
    rw [this]
    by_cases hij : i = j
    · rw [if_pos hij, if_pos hij]
    · rw [if_neg hij, if_neg hij]; exact h.lasts j (setLast_in.1 hj)
  · rw [mget_mput] at he
    split at he
    · cases he; exact hc
    · exact h.inl j e he
theorem _root_.Go.Sl.W.split2 {P : Program} {n : Nat} {R : HL} {cx : Cx} {k : List Kont} {ρ : Env} {L : List HL} {A B : HL} {M : List HL} (h : L = (A ++ B) :: M) (hk : W P n R cx k ρ (A :: B :: M)) : W P n R cx k ρ L := by
  subst h
  exact W.regroup (by simp) hk
theorem _root_.Go.Sl.W.split4 {P : Program} {n : Nat} {R : HL} {cx : Cx} {k : List Kont} {ρ : Env} {L : List HL} {A B C D : HL} {M : List HL} (h : L = (A ++ (B ++ (C ++ D))) :: M) (hk : W P n R cx k ρ (A :: B :: C :: D :: M)) : W P n R cx k ρ L := by
  subst h
  exact W.regroup (by simp) hk
def Dv.write (d : Dv) (i : Int) (bs : List Int) : Dv × Int := if d.in_ i then (if bs.length = 16 then (d.setLater i (sealB bs), 0) else (d, 2)) else (d, 4)
theorem DWrite_spec (d : Dv) (hd : d.Ok) (b : Nat) (H : HL) (h : DevAt d b H) (i : Int) (bs : List Int) (hu : u8ok bs) (a : Option Addr) (cap : Nat) (rb : HL) (hrb : RoSl 1 (u8s bs) a bs.length rb) :
    Ctr Try.prog 12 [.pointer (some ⟨b, 0, none⟩), .int .i64 i, .slice a bs.length cap] [H] rb (fun v L' => ∃ H', v = .int .i64 (d.write i bs).2 ∧ L' = [H'] ∧ DevAt (d.write i bs).1 b H') := by
  have hin := Din_spec d b H h i
  have hS := Seal_spec bs hu a cap rb hrb
  unfold Dv.write
  by_cases hi : d.in_ i
  · rw [if_pos hi]
    by_cases h16 : bs.length = 16
    · rw [if_pos h16]
      obtain ⟨bl, bt, ah, ch, tl, tt, Hl, Ht, D, rfl, hml, hmt, hr, hh⟩ := h
      refine Ctr.enter (n := 27) [.tmp 6] [(0, _), (1, _), (2, _)] Try.func12 rfl rfl rfl (lb rfl) Try.call12 ⟨rfl, rfl, rfl, trivial⟩ ?_
      intro cx fin fin0
      refine aG ?_
      refine aC (o := hin) (h := ?_) (hro := RoIn.own 0 rfl)
      rintro _ _ ⟨rfl, rfl⟩
      refine aG ?_
      repeat (first | refine gh hi ?_ | refine gN fun _ => ?_ | refine gB fun _ => ?_ | fail)
      refine aC (o := hS) (h := ?_)
      rintro _ _ (⟨hn, -⟩ | ⟨-, a2, c2, H2, rfl, rfl, ho⟩)
      · exact absurd h16 hn
      refine W.order [1, 0] rfl ?_
      refine W.split4 rfl ?_
      refine aG ?_
      repeat (first | refine gx ?_ | refine gN fun _ => ?_ | refine gB fun _ => ?_ | fail)
      have hs20 : (sealB bs).length = 20 := by rw [sealB_len, h16]
      have hv : Cl.v ⟨a2, c2, sealB bs⟩ = .slice a2 20 c2 := by unfold Cl.v; rw [hs20]
      refine aSkp (mqPut (f := Cl.v) (v := ⟨a2, c2, sealB bs⟩) Try.underlying61 Try.underlying3 rfl rfl (by exact (congrArg some hv).symm) (by intro p hp; simp [hp]) hmt) ?_
      rintro _ ⟨Hm, rfl, hm'⟩
      refine aG ?_
      repeat (first | refine gx ?_ | refine gN fun _ => ?_ | refine gB fun _ => ?_ | fail)
      refine W.groupV [1, 1, 0, 1, 0] rfl ?_
      refine W.ret (fin _ _ (FinOk.first 1 (.tmp rfl .nil) rfl ?_))
      refine ⟨_, rfl, rfl, bl, bt, ah, ch, tl, _, Hl, Hm, H2 ++ D, rfl, hml, hm', (hr.mono fun q hq => List.mem_append_right _ hq).put (c := ⟨a2, c2, sealB bs⟩) hd hi hs20 ?_, hh.mono fun q hq => List.mem_append_right _ hq⟩
      refine ⟨?_, H2, by show RoSl 1 (u8s (sealB bs)) a2 (sealB bs).length H2; rw [hs20]; exact Own.roSl ho, fun q hq => List.mem_append_left _ hq⟩
      show (sealB bs).length ≤ c2
      rcases ho.2 with ⟨_, h0, _⟩ | ⟨_, _, _, _, h0, _⟩ <;> omega
    · rw [if_neg h16]
      refine Ctr.enter (n := 27) [.tmp 6] [(0, _), (1, _), (2, _)] Try.func12 rfl rfl rfl (lb rfl) Try.call12 ⟨rfl, rfl, rfl, trivial⟩ ?_
      intro cx fin fin0
      refine aG ?_
      refine aC (o := hin) (h := ?_) (hro := RoIn.own 0 rfl)
      rintro _ _ ⟨rfl, rfl⟩
      refine aG ?_
      repeat (first | refine gh hi ?_ | refine gN fun _ => ?_ | refine gB fun _ => ?_ | fail)
      refine aC (o := hS) (h := ?_)
      rintro _ _ (⟨-, rfl, rfl⟩ | ⟨hn, -⟩)
      · refine aG ?_
        repeat (first | refine gx ?_ | refine gN fun _ => ?_ | refine gB fun _ => ?_ | fail)
        refine W.ret (fin _ _ (FinOk.first 1 (.tmp rfl .nil) rfl ?_))
        exact ⟨_, rfl, rfl, h⟩
      · exact absurd hn h16
  · rw [if_neg hi]
    refine Ctr.enter (n := 27) [.tmp 6] [(0, _), (1, _), (2, _)] Try.func12 rfl rfl rfl (lb rfl) Try.call12 ⟨rfl, rfl, rfl, trivial⟩ ?_
    intro cx fin fin0
    refine aG ?_
    refine aC (o := hin) (h := ?_) (hro := RoIn.own 0 rfl)
    rintro _ _ ⟨rfl, rfl⟩
    refine aG ?_
    repeat (first | refine gh hi ?_ | refine gN fun _ => ?_ | refine gB fun _ => ?_ | fail)
    refine W.ret (fin _ _ (FinOk.first 1 (.tmp rfl .nil) rfl ?_))
    exact ⟨_, rfl, rfl, h⟩
/-- The sectors of a range whose bytes do not last yet. -/
def Dv.laterIn (d : Dv) (from_ to : Int) : List Int := ((List.range d.lasts.length).map Int.ofNat).filter fun i => decide (from_ ≤ i ∧ i < to ∧ d.late i ≠ [])
theorem range_sorted (n : Nat) : ((List.range n).map Int.ofNat).Pairwise (· ≤ ·) := by
  rw [List.pairwise_map]
  exact (List.pairwise_lt_range (n := n)).imp fun {a b} h => by show (a : Int) ≤ (b : Int); omega
theorem range_nodup (n : Nat) : ((List.range n).map Int.ofNat).Nodup := by
  rw [List.Nodup, List.pairwise_map]
  exact (List.pairwise_lt_range (n := n)).imp fun {a b} h => by show (a : Int) ≠ (b : Int); omega
theorem mget_key {m : List (Int × Cl)} {k : Int} : k ∈ m.map (·.1) ↔ ∃ c, mget m k = some c := by
  induction m with
  | nil => simp [mget]
  | cons p r ih =>
    obtain ⟨a, v⟩ := p
    simp only [List.map_cons, List.mem_cons, mget]
    by_cases h : a = k
    · rw [if_pos h]; simp [h]
    · rw [if_neg h, ← ih]
      simp [Ne.symm h]
theorem Reads.sorted {d : Dv} {tl tt : List (Int × Cl)} {D : HL} (h : Reads d tl tt D) (from_ to : Int) {zs : List Int} (hp : zs.Perm ((tt.map (·.1)).filter fun k => decide (from_ ≤ k ∧ k < to))) : sortI zs = d.laterIn from_ to := by
  have h1 : (sortI zs).Pairwise (· ≤ ·) := by
    have := List.pairwise_mergeSort (le := fun x y : Int => decide (x ≤ y)) (by intro a b c h1 h2; simp at *; omega) (by intro a b; simp; omega) zs
    exact this.imp fun h => by simpa using h
  have h2 : (d.laterIn from_ to).Pairwise (· ≤ ·) := (range_sorted _).sublist List.filter_sublist
  have h3 : (sortI zs).Perm zs := List.mergeSort_perm _ _
  refine List.Perm.eq_of_pairwise (le := (· ≤ ·)) (fun a b _ _ h1 h2 => Int.le_antisymm h1 h2) h1 h2 ((h3.trans hp).trans ?_)
  unfold Dv.laterIn
  rw [List.perm_ext_iff_of_nodup (h.nd.sublist List.filter_sublist) ((range_nodup _).sublist List.filter_sublist)]
  intro k
  rw [List.mem_filter, List.mem_filter, mget_key, List.mem_map]
  simp only [List.mem_range, decide_eq_true_eq]
  constructor
  · rintro ⟨⟨c, hc⟩, hf, ht⟩
    obtain ⟨hi, h20⟩ := h.keys k c hc
    refine ⟨⟨k.toNat, by unfold Dv.in_ at hi; omega, by unfold Dv.in_ at hi; show ((k.toNat : Nat) : Int) = k; omega⟩, hf, ht, ?_⟩
    rw [h.later k hi, hc]
    intro h0
    simp only at h0
    rw [h0] at h20
    simp at h20
  · rintro ⟨⟨j, hj, rfl⟩, hf, ht, hne⟩
    have hi : d.in_ (Int.ofNat j) := ⟨by show (0 : Int) ≤ (j : Int); omega, by show (j : Int) < _; omega⟩
    rw [h.later _ hi] at hne
    refine ⟨?_, hf, ht⟩
    cases hg : mget tt (Int.ofNat j) with
    | none => rw [hg] at hne; exact absurd rfl hne
    | some c => exact ⟨c, rfl⟩
end Go.Proofs.Ytpimbaphenignaa
