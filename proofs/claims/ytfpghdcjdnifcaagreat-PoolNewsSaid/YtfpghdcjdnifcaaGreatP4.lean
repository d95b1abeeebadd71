/-
  The walks of this claim and the rules that they use, part four: each theorem is a contract of one function, or what such a proof asks.
-/
import Derived.Test.YtfpghdcjdnifcaaGreatP3
import Derived.OpenShut
import Derived.ChangeArms
import Derived.ChangeMaps5
namespace Go.Proofs.YtfpghdcjdnifcaaGreat
open Go Go.Sl Go.IntWalk
set_option maxHeartbeats 8000000
set_option maxRecDepth 20000
set_option linter.unusedVariables false
def flipB (c : List Int) (p : Int) (by_ : Nat) : List Int := c.set p.toNat (((c.getD p.toNat 0).toNat ^^^ by_ : Nat) : Int)
theorem flipB_len (c : List Int) (p : Int) (by_ : Nat) : (flipB c p by_).length = c.length := by simp [flipB]
theorem flipB_ok {c : List Int} (h : u8ok c) (p : Int) {by_ : Nat} (hb : by_ < 256) : u8ok (flipB c p by_) := fun x hx => by
 unfold flipB at hx
 rcases List.mem_or_eq_of_mem_set hx with h1 | rfl
 · exact h x h1
 ·
  have : (c.getD p.toNat 0).toNat < 256 := by
   rw [List.getD_eq_getElem?_getD]
   cases hg : c[p.toNat]? with
   | none => decide
   | some y =>
    have := h y (List.mem_of_getElem? hg)
    simp only [Option.getD_some]
    omega
  have := Nat.xor_lt_two_pow (n := 8) this hb
  omega
def Dv.turn (d : Dv) (i place : Int) (by_ : Nat) : Dv × Int := if d.in_ i ∧ 0 ≤ place ∧ place < 20 then (d.setLast i (flipB (d.last i) place by_), 0) else (d, 4)
theorem DSetHead_spec (d : Dv) (hd : d.Ok) (b : Nat) (H : HL) (h : DevAt d b H) (bs : List Int) (hl : bs.length ≤ 100000) (a : Option Addr) (cap : Nat) (rb : HL) (hrb : RoSl 1 (u8s bs) a bs.length rb) :
  Ctr Tryz.prog 86 [.pointer (some ⟨b, 0, none⟩), .slice a bs.length cap] [H] rb (fun _ L' => ∃ H', L' = [H'] ∧ DevAt ⟨d.lasts, d.later, bs⟩ b H') := by
 have hC := BClone_spec bs (by omega) a cap rb hrb
 obtain ⟨bl, bt, ah, ch, tl, tt, Hl, Ht, D, rfl, hml, hmt, hr, hh⟩ := h
 refine Ctr.enter (n := 9) [] [(0, _), (1, _)] Tryz.func86 rfl rfl rfl (lb rfl) Tryz.call86 ⟨rfl, rfl, trivial⟩ ?_
 intro cx fin fin0
 refine aG ?_
 refine aC (o := hC) (h := ?_)
 rintro _ _ ⟨a2, c2, H2, rfl, rfl, ho⟩
 refine aG ?_
 refine W.order [1, 0] rfl ?_
 refine W.split4 rfl ?_
 refine aG ?_
 repeat (first | refine gx ?_ | refine gN fun _ => ?_ | refine gB fun _ => ?_ | fail)
 refine W.groupV [0, 0, 0, 1, 0] rfl ?_
 refine fin0 _ _ (FinOk.first 1 .nil rfl ?_)
 refine ⟨_, rfl, bl, bt, a2, c2, tl, tt, Hl, Ht, H2 ++ D, rfl, hml, hmt, ⟨hr.lasts, hr.later, hr.keys, hr.nd, hr.ndl, fun i c hc => (hr.inl i c hc).mono fun q hq => List.mem_append_right _ hq, fun i c hc => (hr.int i c hc).mono fun q hq => List.mem_append_right _ hq⟩, ?_, H2, Own.roSl ho, fun q hq => List.mem_append_left _ hq⟩
 show bs.length ≤ c2
 rcases ho.2 with ⟨_, h0, _⟩ | ⟨_, _, _, _, h0, _⟩ <;> omega
def Dv.new (n : Nat) : Dv := ⟨List.replicate n zcell, List.replicate n [], []⟩
theorem Dv.new_ok {n : Nat} (h1 : 1 ≤ n) (h2 : n ≤ 1024) : (Dv.new n).Ok :=
 ⟨by simp [Dv.new], by simpa [Dv.new] using ⟨h1, h2⟩, fun c hc => by rw [List.eq_of_mem_replicate hc]; exact ⟨zcell_len, zcell_ok⟩, fun c hc => .inl (List.eq_of_mem_replicate hc), (by intro b hb; cases hb), by show ([] : List Int).length ≤ 100000; decide⟩
theorem DNew_spec (n : Int) : Ctr Tryz.prog 85 [.int .i64 n] [] [] (fun v L' => (¬ (1 ≤ n ∧ n ≤ 1024) ∧ v = .tuple #[.pointer none, .int .i64 1] ∧ L' = []) ∨
  ((1 ≤ n ∧ n ≤ 1024) ∧ ∃ b H, v = .tuple #[.pointer (some ⟨b, 0, none⟩), .int .i64 0] ∧ L' = [H] ∧ DevAt (Dv.new n.toNat) b H)) := by
 by_cases h1 : n < 1
 ·
  refine Ctr.enter (n := 15) [.tmp 2, .tmp 3] [(0, _)] Tryz.func85 rfl rfl rfl (lb rfl) Tryz.call85 ⟨rfl, trivial⟩ ?_
  intro cx fin fin0
  refine aG ?_
  repeat (first | refine gh h1 ?_ | refine gN fun _ => ?_ | refine gB fun _ => ?_ | fail)
  refine W.ret (fin _ _ (FinOk.first 0 (.tmp rfl (.tmp rfl .nil)) rfl ?_))
  exact .inl ⟨by omega, rfl, rfl⟩
 ·
  by_cases h2 : n > 1024
  ·
   refine Ctr.enter (n := 15) [.tmp 2, .tmp 3] [(0, _)] Tryz.func85 rfl rfl rfl (lb rfl) Tryz.call85 ⟨rfl, trivial⟩ ?_
   intro cx fin fin0
   refine aG ?_
   repeat (first | refine gh (gc2 h1 h2) ?_ | refine gN fun _ => ?_ | refine gB fun _ => ?_ | fail)
   refine W.ret (fin _ _ (FinOk.first 0 (.tmp rfl (.tmp rfl .nil)) rfl ?_))
   exact .inl ⟨by omega, rfl, rfl⟩
  ·
   obtain ⟨k, rfl⟩ : ∃ k : Nat, n = (k : Int) := ⟨n.toNat, by omega⟩
   refine Ctr.enter (n := 15) [.tmp 2, .tmp 3] [(0, _)] Tryz.func85 rfl rfl rfl (lb rfl) Tryz.call85 ⟨rfl, trivial⟩ ?_
   intro cx fin fin0
   refine aG ?_
   repeat (first | refine gh (gc2 h1 h2) ?_ | refine gN fun _ => ?_ | refine gB fun _ => ?_ | fail)
   refine aW (NewOf.map) ?_
   intro _
   refine aG ?_
   rename_i bl
   refine aW (NewOf.map) ?_
   intro _
   refine aG ?_
   rename_i bt
   refine aBu (ps := [_, _, _]) ?_
   repeat (first | refine gx ?_ | refine gN fun _ => ?_ | refine gB fun _ => ?_ | fail)
   rename_i b
   refine W.groupV [0, 1, 0] rfl ?_
   refine W.nilChunk ?_
   refine W.groupV [1, 0] rfl ?_
   refine W.ret (fin _ _ (FinOk.first 1 (.tmp rfl (.tmp rfl .nil)) rfl ?_))
   refine .inr ⟨⟨by omega, by omega⟩, b, _, rfl, rfl, bl, bt, none, 0, [], [], [(bl, .map #[] 0)], [(bt, .map #[] 0)], [], ?_, ⟨#[], 0, rfl, rfl⟩, ⟨#[], 0, rfl, rfl, (by intro x hx; simp at hx), by simp⟩, ⟨fun i hi => ?_, fun i hi => ?_, (by intro i c hc; cases hc), by simp, by simp, (by intro i c hc; cases hc), (by intro i c hc; cases hc)⟩, Nat.le_refl _, [], ⟨rfl, .inl ⟨rfl, rfl⟩⟩, (by intro q hq; cases hq)⟩
   · simp [Dv.new]
   ·
    unfold Dv.in_ Dv.new at hi
    simp at hi
    unfold Dv.last Dv.new
    simp only [Int.toNat_natCast]
    rw [List.getD_eq_getElem?_getD, List.getElem?_replicate, if_pos (by omega)]
    rfl
   ·
    unfold Dv.in_ Dv.new at hi
    simp at hi
    unfold Dv.late Dv.new
    simp only [Int.toNat_natCast]
    rw [List.getD_eq_getElem?_getD, List.getElem?_replicate, if_pos (by omega)]
    rfl
end Go.Proofs.YtfpghdcjdnifcaaGreat
namespace Go.Proofs.YtfpghdcjdnifcaaGreat
open Go Go.Sl Go.IntWalk
set_option maxHeartbeats 2000000
set_option maxRecDepth 20000
def PtsAt : List Pt → List Nat → HL → Prop
 | [], bs, H => bs = [] ∧ H = []
 | p :: ps, bs, H => ∃ b bs' Hp H', bs = b :: bs' ∧ H = Hp ++ H' ∧ PtAt p b Hp ∧ PtsAt ps bs' H'
def ptrs (bs : List Nat) : List Value := bs.map fun b => .pointer (some ⟨b, 0, none⟩)
theorem PtsAt.len : ∀ {ps : List Pt} {bs : List Nat} {H : HL}, PtsAt ps bs H → bs.length = ps.length
 | [], bs, H, h => by obtain ⟨rfl, _⟩ := h; rfl
 | p :: ps, bs, H, h => by
  obtain ⟨b, bs', Hp, H', rfl, rfl, _, h2⟩ := h
  simp [h2.len]
theorem PtsAt.get : ∀ {ps : List Pt} {bs : List Nat} {H : HL} {i : Nat} (hi : i < ps.length), PtsAt ps bs H → ∃ b Hi, bs[i]? = some b ∧ PtAt ps[i] b Hi ∧ ∀ x ∈ Hi, x ∈ H
 | [], _, _, _, hi, _ => absurd hi (by simp)
 | p :: ps, bs, H, 0, hi, h => by
  obtain ⟨b, bs', Hp, H', rfl, rfl, h1, h2⟩ := h
  exact ⟨b, Hp, rfl, h1, fun x hx => by simp [hx]⟩
 | p :: ps, bs, H, i + 1, hi, h => by
  obtain ⟨b, bs', Hp, H', rfl, rfl, h1, h2⟩ := h
  obtain ⟨b2, Hi, g1, g2, g3⟩ := PtsAt.get (i := i) (by simpa using hi) h2
  exact ⟨b2, Hi, by simpa using g1, by simpa using g2, fun x hx => by simp [g3 x hx]⟩
theorem PtsAt.snoc : ∀ {ps : List Pt} {bs : List Nat} {H : HL} {p : Pt} {b : Nat} {Hp : HL}, PtsAt ps bs H → PtAt p b Hp → PtsAt (ps ++ [p]) (bs ++ [b]) (H ++ Hp)
 | [], bs, H, p, b, Hp, h, hp => by
  obtain ⟨rfl, rfl⟩ := h
  exact ⟨b, [], Hp, [], rfl, by simp, hp, rfl, rfl⟩
 | q :: ps, bs, H, p, b, Hp, h, hp => by
  obtain ⟨b2, bs', Hp', H', rfl, rfl, h1, h2⟩ := h
  exact ⟨b2, bs' ++ [b], Hp', H' ++ Hp, rfl, by simp, h1, h2.snoc hp⟩
def ArAt (ps : List Pt) (b : Nat) (H : HL) : Prop := ∃ bs bl l cap Hp, H = (b, .cells #[.slice (some ⟨bl, 0, none⟩) ps.length cap] 241 (0, 0)) :: (bl, .cells (List.toArray l) 173 (0, 0)) :: Hp ∧
 ps.length ≤ cap ∧ l.take ps.length = ptrs bs ∧ PtsAt ps bs Hp
theorem ptr_at {l : List Value} {n : Nat} {bs : List Nat} {i b : Nat} (h : l.take n = ptrs bs) (hi : i < n) (hb : bs[i]? = some b) : l[0 + i * 1]? = some (.pointer (some ⟨b, 0, none⟩)) := by
 have h1 := congrArg (fun l => l[i]?) h
 simp only [List.getElem?_take, if_pos hi, ptrs, List.getElem?_map, hb, Option.map_some] at h1
 simpa using h1
def lens (ps : List Pt) : List Nat := ps.map fun p => p.fs.length
def tot (g : Pt → Int) (ps : List Pt) : Int := ps.foldl (fun a p => a + g p) 0
theorem tot_next (g : Pt → Int) {ps : List Pt} {i : Nat} (hi : i < ps.length) : tot g (ps.take (i + 1)) = tot g (ps.take i) + g ps[i] := by
 unfold tot
 rw [List.take_add_one, List.foldl_append]
 simp [hi]
theorem tot_bound (g : Pt → Int) {ps : List Pt} (h : ∀ p ∈ ps, 0 ≤ g p ∧ g p ≤ 64) : 0 ≤ tot g ps ∧ tot g ps ≤ ps.length * 64 := by
 unfold tot
 have : ∀ (ps : List Pt) (a : Int), (∀ p ∈ ps, 0 ≤ g p ∧ g p ≤ 64) → a ≤ ps.foldl (fun a p => a + g p) a ∧ ps.foldl (fun a p => a + g p) a ≤ a + ps.length * 64 := by
  intro ps
  induction ps with
  | nil => intro a _; simp
  | cons p ps ih =>
   intro a h
   have h1 := h p (by simp)
   have h2 := ih (a + g p) (fun q hq => h q (by simp [hq]))
   simp only [List.foldl_cons, List.length_cons]
   omega
 have := this ps 0 h
 omega
theorem PLen_spec (p : Pt) (b : Nat) (H : HL) (hp : PtAt p b H) : Ctr Tryz.prog 209 [.pointer (some ⟨b, 0, none⟩)] [] H (fun v L' => v = .int .i64 (p.fs.length : Int) ∧ L' = []) := by
 obtain ⟨bf, bm, es, clock, rfl, hm⟩ := hp
 refine Ctr.enter (n := 8) [.tmp 2] [(0, _)] Tryz.func209 rfl rfl rfl (lb rfl) Tryz.call209 ⟨rfl, trivial⟩ ?_
 intro cx fin fin0
 refine aG ?_
 repeat (first | refine gw ?_ | refine gN fun _ => ?_ | refine gB fun _ => ?_ | fail)
 refine W.ret (fin _ _ (FinOk.mk' ([]) (.tmp rfl .nil) (by repeat (first | exact Sel.nil | (apply Sel.cons; (repeat (first | exact Pick.here | apply Pick.there))))) rfl ?_))
 exact ⟨rfl, rfl⟩
theorem ALen_spec (ps : List Pt) (b : Nat) (H : HL) (ha : ArAt ps b H) : Ctr Tryz.prog 150 [.pointer (some ⟨b, 0, none⟩)] [] H (fun v L' => v = .int .i64 (ps.length : Int) ∧ L' = []) := by
 obtain ⟨bs, bl, l, cap, Hp, rfl, hc, hl, hps⟩ := ha
 refine Ctr.enter (n := 8) [.tmp 2] [(0, _)] Tryz.func150 rfl rfl rfl (lb rfl) Tryz.call150 ⟨rfl, trivial⟩ ?_
 intro cx fin fin0
 refine aG ?_
 repeat (first | refine gw ?_ | refine gN fun _ => ?_ | refine gB fun _ => ?_ | fail)
 refine W.ret (fin _ _ (FinOk.mk' ([]) (.tmp rfl .nil) (by repeat (first | exact Sel.nil | (apply Sel.cons; (repeat (first | exact Pick.here | apply Pick.there))))) rfl ?_))
 exact ⟨rfl, rfl⟩
theorem ain_spec (ps : List Pt) (b : Nat) (H : HL) (ha : ArAt ps b H) (i : Int) : Ctr Tryz.prog 147 [.pointer (some ⟨b, 0, none⟩), .int .i64 i] [] H (fun v L' => v = .bool (decide (0 ≤ i ∧ i < ps.length)) ∧ L' = []) := by
 have hL := ALen_spec ps b H ha
 refine Ctr.enter (n := 13) [.tmp 4] [(0, _), (1, _)] Tryz.func147 rfl rfl rfl (lb rfl) Tryz.call147 ⟨rfl, rfl, trivial⟩ ?_
 intro cx fin fin0
 refine aG ?_
 by_cases h : 0 ≤ i
 ·
  refine aGo ?_ (hw := by simp [h])
  refine aGo ?_ (hw := by simp [h])
  refine aGo ?_ (hw := by simp [h])
  refine aC (o := hL) (h := ?_)
  rintro _ _ ⟨rfl, rfl⟩
  refine aG ?_
  refine aGo ?_ (hw := by simp [h])
  refine aPT ?_ (hb := by simp [h])
  refine W.ret (fin _ _ (FinOk.mk' ([]) (.tmp rfl .nil) (by repeat (first | exact Sel.nil | (apply Sel.cons; (repeat (first | exact Pick.here | apply Pick.there))))) rfl ?_))
  exact ⟨by simp [pack, h], rfl⟩
 ·
  refine aSk ?_ (hw := by simp [h])
  refine aSk ?_ (hw := by simp [h])
  refine aSk ?_ (hw := by simp [h])
  refine aSk ?_ (hw := by simp [h])
  refine aPF ?_ (hb := by simp [h])
  refine W.ret (fin _ _ (FinOk.mk' ([]) (.tmp rfl .nil) (by repeat (first | exact Sel.nil | (apply Sel.cons; (repeat (first | exact Pick.here | apply Pick.there))))) rfl ?_))
  exact ⟨by simp [pack, h], rfl⟩
theorem sum_spec (g : FuncId) (val : Pt → Int) (hg : ∀ p b H, PtAt p b H → p.Ok → Ctr Tryz.prog g [.pointer (some ⟨b, 0, none⟩)] [] H (fun v L' => v = .int .i64 (val p) ∧ L' = [])) (hv : ∀ p : Pt, p.Ok → 0 ≤ val p ∧ val p ≤ 64)
  (ps : List Pt) (hok : ∀ p ∈ ps, p.Ok) (hn : ps.length ≤ 1000) (b : Nat) (H : HL) (ha : ArAt ps b H) (i : Nat) (hi : i ≤ ps.length) :
  Ctr Tryz.prog 149 [.pointer (some ⟨b, 0, none⟩), .int .i64 (i : Int), .func (.func g) #[] #[]] [] H (fun v L' => v = .int .i64 (tot val (ps.take i)) ∧ L' = []) := by
 obtain ⟨bs, bl, l, cap, Hp, rfl, hc, hl, hps⟩ := ha
 have hbl := hps.len
 refine Ctr.enter (n := 28) [.tmp 6] [(0, _), (1, _), (2, _)] Tryz.func149 rfl rfl rfl (lb rfl) Tryz.call149 ⟨rfl, rfl, rfl, trivial⟩ ?_
 intro cx fin fin0
 refine aG ?_
 repeat (first | refine gw ?_ | refine gN fun _ => ?_ | refine gB fun _ => ?_ | fail)
 refine aV (OpVal.front tab_ok rfl rfl rfl rfl rfl (Nat.le_trans hi hc)) ?_
 refine aLp (fun m ρ1 L1 => ∃ (j : Nat) (s : Int), j ≤ i ∧ s = tot val (ps.take j) ∧ m = i - j ∧ ρ1 = [(17, .int .i64 (j : Int)), (16, .int .i64 (i : Int)), (15, .slice (some ⟨bl, 0, none⟩) i cap), (2, .func (.func g) #[] #[]), (7, .int .i64 s)] ∧ L1 = []) (o := ⟨0, 0, Nat.zero_le _, rfl, rfl, rfl, rfl⟩) (h := ?_)
 rintro m ρ1 L1 ⟨j, s, hj, hs, rfl, rfl, rfl⟩
 refine aG ?_
 by_cases hlt : j < i
 ·
  refine aT ?_ (hb := by simp; omega)
  have hjn : j < ps.length := by omega
  obtain ⟨bj, Hj, g1, g2, g3⟩ := hps.get hjn
  have hld := ptr_at hl hjn g1
  have hnx := tot_next val hjn
  have hb := tot_bound val (ps := ps.take j) (fun p hp => hv p (hok p (List.mem_of_mem_take hp)))
  have hb2 := hv _ (hok _ (List.getElem_mem hjn))
  have hcall := hg _ _ _ g2 (hok _ (List.getElem_mem hjn))
  rw [← hs] at hb hnx
  have hlen : (ps.take j).length ≤ 1000 := by simp; omega
  generalize val ps[j] = x at hnx hb2 hcall
  refine aV (OpVal.ixSl tab_ok rfl rfl rfl rfl rfl hlt) ?_
  refine aV (OpVal.load tab_ok rfl (at_ro 1 rfl) hld) ?_
  refine aC (o := hcall) (h := ?_) (hro := RoIn.all (fun p hp => List.mem_cons_of_mem _ (List.mem_cons_of_mem _ (g3 p hp))))
  rintro _ _ ⟨rfl, rfl⟩
  refine aG ?_
  refine aV (OpVal.add rfl rfl (i64_in _ (by omega))) ?_
  refine aV (OpVal.add rfl rfl (i64_in _ (by omega))) ?_
  refine aR (o := ⟨i - (j + 1), by omega, j + 1, _, by omega, hnx.symm, rfl, rfl, rfl⟩)
 ·
  refine aF ?_ (hb := by simp; omega)
  have : j = i := by omega
  subst this
  refine W.ret (fin _ _ (FinOk.mk' ([]) (.tmp rfl .nil) (by repeat (first | exact Sel.nil | (apply Sel.cons; (repeat (first | exact Pick.here | apply Pick.there))))) rfl ?_))
  exact ⟨by rw [hs]; rfl, rfl⟩
def flen (p : Pt) : Int := (p.fs.length : Int)
theorem flen_ok {p : Pt} (h : p.Ok) : 0 ≤ flen p ∧ flen p ≤ 64 := by unfold flen; have := h.2; omega
theorem Frames_spec (ps : List Pt) (hok : ∀ p ∈ ps, p.Ok) (hn : ps.length ≤ 1000) (b : Nat) (H : HL) (ha : ArAt ps b H) :
  Ctr Tryz.prog 144 [.pointer (some ⟨b, 0, none⟩)] [] H (fun v L' => v = .int .i64 (tot flen ps) ∧ L' = []) := by
 have hL := ALen_spec ps b H ha
 have hS := sum_spec 209 flen (fun p b H hp _ => PLen_spec p b H hp) (fun p h => flen_ok h) ps hok hn b H ha ps.length (Nat.le_refl _)
 refine Ctr.enter (n := 7) [.tmp 2] [(0, _)] Tryz.func144 rfl rfl rfl (lb rfl) Tryz.call144 ⟨rfl, trivial⟩ ?_
 intro cx fin fin0
 refine aG ?_
 refine aC (o := hL) (h := ?_)
 rintro _ _ ⟨rfl, rfl⟩
 refine aG ?_
 refine aC (o := hS) (h := ?_)
 rintro _ _ ⟨rfl, rfl⟩
 refine aG ?_
 refine W.ret (fin _ _ (FinOk.mk' ([]) (.tmp rfl .nil) (by repeat (first | exact Sel.nil | (apply Sel.cons; (repeat (first | exact Pick.here | apply Pick.there))))) rfl ?_))
 exact ⟨by rw [List.take_length]; rfl, rfl⟩
theorem Part_spec (ps : List Pt) (b : Nat) (H : HL) (bs : List Nat) (bl cap : Nat) (l : List Value) (Hp : HL) (hH : H = (b, .cells #[.slice (some ⟨bl, 0, none⟩) ps.length cap] 241 (0, 0)) :: (bl, .cells (List.toArray l) 173 (0, 0)) :: Hp)
  (hc : ps.length ≤ cap) (hl : l.take ps.length = ptrs bs) (hps : PtsAt ps bs Hp) (i : Int) :
  Ctr Tryz.prog 90 [.pointer (some ⟨b, 0, none⟩), .int .i64 i] [] H (fun v L' => v = .pointer (if 0 ≤ i ∧ i < ps.length then (bs[i.toNat]?).map fun b => ⟨b, 0, none⟩ else none) ∧ L' = []) := by
 have hI := ain_spec ps b H ⟨bs, bl, l, cap, Hp, hH, hc, hl, hps⟩ i
 subst hH
 refine Ctr.enter (n := 16) [.tmp 4] [(0, _), (1, _)] Tryz.func90 rfl rfl rfl (lb rfl) Tryz.call90 ⟨rfl, rfl, trivial⟩ ?_
 intro cx fin fin0
 refine aG ?_
 refine aC (o := hI) (h := ?_)
 rintro _ _ ⟨rfl, rfl⟩
 refine aG ?_
 by_cases h : 0 ≤ i ∧ i < ps.length
 ·
  refine aF ?_ (hb := by simp [h])
  obtain ⟨j, rfl⟩ : ∃ j : Nat, i = (j : Int) := ⟨i.toNat, by omega⟩
  have hj : j < ps.length := by omega
  obtain ⟨bj, Hj, g1, g2, g3⟩ := hps.get hj
  have hld := ptr_at hl hj g1
  repeat (first | refine gw ?_ | refine gN fun _ => ?_ | refine gB fun _ => ?_ | fail)
  refine aV (OpVal.ixSl tab_ok rfl rfl rfl rfl rfl hj) ?_
  refine aV (OpVal.load tab_ok rfl (at_ro 1 rfl) hld) ?_
  refine W.ret (fin _ _ (FinOk.mk' ([]) (.tmp rfl .nil) (by repeat (first | exact Sel.nil | (apply Sel.cons; (repeat (first | exact Pick.here | apply Pick.there))))) rfl ?_))
  exact ⟨by simp only [pack, if_pos h, Int.toNat_natCast, g1, Option.map_some], rfl⟩
 ·
  refine aT ?_ (hb := by simp [h])
  refine W.ret (fin _ _ (FinOk.mk' ([]) (.tmp rfl .nil) (by repeat (first | exact Sel.nil | (apply Sel.cons; (repeat (first | exact Pick.here | apply Pick.there))))) rfl ?_))
  exact ⟨by simp only [pack, if_neg h], rfl⟩
end Go.Proofs.YtfpghdcjdnifcaaGreat
namespace Go.Proofs.YtfpghdcjdnifcaaGreat
open Go Go.Sl Go.IntWalk
set_option maxHeartbeats 2000000
set_option maxRecDepth 20000
def made (ls : List Int) : List Pt := ls.map fun n => Pt.new n.toNat
def MayCut (ls : List Int) : Prop := 1 ≤ ls.length ∧ ls.length ≤ 16 ∧ (∀ n ∈ ls, 1 ≤ n ∧ n ≤ 64) ∧ tot flen (made ls) ≤ 64
theorem made_ok {ls : List Int} (h : ∀ n ∈ ls, 1 ≤ n ∧ n ≤ 64) : ∀ p ∈ made ls, p.Ok := by
 intro p hp
 obtain ⟨n, hn, rfl⟩ := List.mem_map.1 hp
 have := h n hn
 exact Pt.new_ok (by omega) (by omega)
theorem Cut_spec (xs : List Int) (a : Option Addr) (cap : Nat) (ro : HL) (hro : RoSl 1 (ints xs) a xs.length ro) :
  Ctr Tryz.prog 88 [.slice a xs.length cap] [] ro (fun v L' => (¬ MayCut xs ∧ v = .tuple #[.pointer none, .int .i64 1] ∧ L' = []) ∨
   (MayCut xs ∧ ∃ b H, v = .tuple #[.pointer (some ⟨b, 0, none⟩), .int .i64 0] ∧ L' = [H] ∧ ArAt (made xs) b H)) := by
 refine Ctr.enter (n := 48) [.tmp 2, .tmp 3] [(0, _)] Tryz.func88 rfl rfl rfl (lb rfl) Tryz.call88 ⟨rfl, trivial⟩ ?_
 intro cx fin fin0
 refine aG ?_
 by_cases h1 : xs.length < 1
 ·
  refine aSk ?_ (hw := by simp; omega)
  refine aSk ?_ (hw := by simp; omega)
  refine aSk ?_ (hw := by simp; omega)
  refine aPT ?_ (hb := by simp; omega)
  refine aT ?_
  refine W.ret (fin _ _ (FinOk.mk' ([]) (.tmp rfl (.tmp rfl .nil)) (by repeat (first | exact Sel.nil | (apply Sel.cons; (repeat (first | exact Pick.here | apply Pick.there))))) rfl ?_))
  exact .inl ⟨fun h => by have := h.1; omega, rfl, rfl⟩
 ·
  refine aGo ?_ (hw := by simp; omega)
  refine aGo ?_ (hw := by simp; omega)
  refine aGo ?_ (hw := by simp; omega)
  refine aPF ?_ (hb := by simp; omega)
  by_cases h2 : 16 < xs.length
  ·
   refine aT ?_ (hb := by simp; omega)
   refine W.ret (fin _ _ (FinOk.mk' ([]) (.tmp rfl (.tmp rfl .nil)) (by repeat (first | exact Sel.nil | (apply Sel.cons; (repeat (first | exact Pick.here | apply Pick.there))))) rfl ?_))
   exact .inl ⟨fun h => by have := h.2.1; omega, rfl, rfl⟩
  ·
   refine aF ?_ (hb := by simp; omega)
   refine aBu (ps := []) ?_
   repeat (first | refine gw ?_ | refine gN fun _ => ?_ | refine gB fun _ => ?_ | fail)
   rename_i b
   rcases hro.2 with ⟨h0, _⟩ | ⟨bx, ox, lx, ex, frx, rfl, rfl, hlx, hcx⟩
   · omega
   refine W.nilChunk ?_
   refine W.nilChunk ?_
   refine aLp (fun m ρ1 L1 => ∃ (j : Nat) (bs : List Nat) (aa : Option Addr) (cc : Nat) (Hl Hp : HL), j ≤ xs.length ∧ (∀ n ∈ xs.take j, 1 ≤ n ∧ n ≤ 64) ∧ Own 1 173 (ptrs bs) aa j cc Hl ∧ PtsAt (made (xs.take j)) bs Hp ∧ m = xs.length - j ∧ ρ1 = [(21, .int .i64 (j : Int)), (20, .int .i64 (xs.length : Int)), (19, .slice (some ⟨bx, ox, none⟩) xs.length cap), (4, .pointer (some ⟨b, 0, none⟩))] ∧ L1 = [[(b, .cells #[.slice aa j cc] 241 (0, 0))], Hl, Hp]) (o := ⟨0, [], none, 0, [], [], Nat.zero_le _, by simp, Own.nil _ _, ⟨rfl, rfl⟩, rfl, rfl, rfl⟩) (h := ?_)
   rintro m ρ1 L1 ⟨j, bs, aa, cc, Hl, Hp, hj, hall, hown, hpts, rfl, rfl, rfl⟩
   refine aG ?_
   by_cases hlt : j < xs.length
   ·
    refine aT ?_ (hb := by simp; omega)
    have hld := int_at hlx hcx hlt
    have hnx : xs.take (j + 1) = xs.take j ++ [xs[j]] := by rw [List.take_add_one]; simp [hlt]
    have hmem : xs[j] ∈ xs := List.getElem_mem hlt
    generalize xs[j] = x at hld hnx hmem
    refine aV (OpVal.ixSl tab_ok rfl rfl rfl rfl rfl hlt) ?_
    refine aV (OpVal.load tab_ok rfl (at_ro 0 rfl) hld) ?_
    refine aC (o := New_spec x) (h := ?_)
    rintro _ _ (⟨hno, rfl, rfl⟩ | ⟨hyes, b2, H2, rfl, rfl, hp2⟩)
    ·
     refine aG ?_
     refine aT ?_ (hb := by rfl)
     refine W.ret (fin _ _ (FinOk.mk' ([]) (.tmp rfl (.tmp rfl .nil)) (by repeat (first | exact Sel.nil | (apply Sel.cons; (repeat (first | exact Pick.here | apply Pick.there))))) rfl ?_))
     exact .inl ⟨fun h => hno (h.2.2.1 x hmem), rfl, rfl⟩
    ·
     refine aG ?_
     refine aF ?_ (hb := by rfl)
     repeat (first | refine gw ?_ | refine gN fun _ => ?_ | refine gB fun _ => ?_ | fail)
     refine aSl (ps := [_]) ?_
     intro bt
     refine aG ?_
     refine aAp (hown) ?_
     rintro _ _ ⟨_, _, _, rfl, rfl, ho⟩
     refine aG ?_
     repeat (first | refine gw ?_ | refine gN fun _ => ?_ | refine gB fun _ => ?_ | fail)
     refine aV (OpVal.add rfl rfl (i64_in _ (by omega))) ?_
     refine W.groupV [4, 2] rfl ?_
     have hpts2 := hpts.snoc hp2
     have e1 : made (xs.take (j + 1)) = made (xs.take j) ++ [Pt.new x.toNat] := by rw [hnx]; simp [made]
     rw [← e1] at hpts2
     have hall2 : ∀ n ∈ xs.take (j + 1), 1 ≤ n ∧ n ≤ 64 := by
      intro n hn
      rw [hnx] at hn
      rcases List.mem_append.1 hn with hn | hn
      · exact hall n hn
      · simp at hn; subst hn; exact hyes
     have epr : ptrs (bs ++ [b2]) = ptrs bs ++ [.pointer (some ⟨b2, 0, none⟩)] := by simp [ptrs]
     rw [← epr] at ho
     refine aR (o := ⟨xs.length - (j + 1), by omega, j + 1, bs ++ [b2], _, _, _, _, by omega, hall2, ho, hpts2, rfl, rfl, rfl⟩)
   ·
    refine aF ?_ (hb := by simp; omega)
    have hjn : j = xs.length := by omega
    subst hjn
    rw [List.take_length] at hall hpts
    have hml : (made xs).length = xs.length := by simp [made]
    obtain ⟨bl, ll, rfl, rfl, hlc, hll, htk⟩ := hown.some (by omega)
    rw [Nat.mul_one] at htk
    have hA : ArAt (made xs) b ((b, .cells #[.slice (some ⟨bl, 0, none⟩) xs.length cc] 241 (0, 0)) :: (bl, .cells (List.toArray ll) 173 (0, 0)) :: Hp) := ⟨bs, bl, ll, cc, Hp, by rw [hml], by rw [hml]; exact hlc, by rw [hml]; exact htk, hpts⟩
    have hF := Frames_spec (made xs) (made_ok hall) (by omega) b _ hA
    refine W.groupV [0, 0, 0] rfl ?_
    refine aG ?_
    refine aC (o := hF) (h := ?_)
    rintro _ _ ⟨rfl, rfl⟩
    refine aG ?_
    by_cases h64 : 64 < tot flen (made xs)
    ·
     refine aT ?_ (hb := by simp [h64])
     refine W.ret (fin _ _ (FinOk.mk' ([]) (.tmp rfl (.tmp rfl .nil)) (by repeat (first | exact Sel.nil | (apply Sel.cons; (repeat (first | exact Pick.here | apply Pick.there))))) rfl ?_))
     exact .inl ⟨fun h => by have := h.2.2.2; omega, rfl, rfl⟩
    ·
     refine aF ?_ (hb := by simp [h64])
     refine W.ret (fin _ _ (FinOk.first 1 (.tmp rfl (.tmp rfl .nil)) rfl ?_))
     exact .inr ⟨⟨by omega, by omega, hall, by omega⟩, b, _, rfl, rfl, hA⟩
end Go.Proofs.YtfpghdcjdnifcaaGreat
namespace Go.Proofs.YtfpghdcjdnifcaaGreat
open Go Go.Sl Go.IntWalk
set_option maxHeartbeats 8000000
set_option maxRecDepth 20000
set_option linter.unusedVariables false
def rhas (s n : Int) : Bool := decide (bits BinOp.and .i64 s n = n)
structure Cs where
 u : Bool
 g : Int
 o : Int
deriving DecidableEq
def Cs.l (x : Cs) : List Value := [.bool x.u, .int .i64 x.g, .int .i64 x.o]
structure Tb where
 e : Int
 n : Int
 s : List Cs
def Tb.l (t : Tb) : List Value := .int .i64 t.e :: .int .i64 t.n :: t.s.flatMap Cs.l
def csNo : Cs := ⟨false, 0, 0⟩
def alls : Int → List Cs → List (Int × Int)
 | _, [] => []
 | k, x :: r => (if x.u then [(k, x.g)] else []) ++ alls (k + 1) r
def Tb.all (t : Tb) : List (Int × Int) := alls 0 t.s
def Tb.own (t : Tb) (k : Int) : Int := (t.s.getD k.toNat csNo).o
def Tb.check (t : Tb) (c : Int × Int) (need : Int) : Int := if c ∈ t.all then (if rhas (t.own c.1) need then 0 else 11) else 10
def Tb.give (t : Tb) (i : Nat) (own : Int) : Tb := ⟨t.e, t.n + 1, t.s.set i ⟨true, t.e * 1048576 + t.n, own⟩⟩
def Tb.new (e : Int) : Tb := (⟨e, 0, List.replicate 8 csNo⟩ : Tb).give 0 15
structure Tb.Inv (t : Tb) : Prop where
 len : t.s.length = 8
 e : 1 ≤ t.e ∧ t.e ≤ 1073741824
 n : 0 ≤ t.n ∧ t.n ≤ 1048576
 g : ∀ x ∈ t.s, (0 ≤ x.g ∧ x.g < 1073741825 * 1048576) ∧ (0 ≤ x.o ∧ x.o < 16)
theorem Tb.new_inv {e : Int} (h : 1 ≤ e ∧ e ≤ 1073741824) : (Tb.new e).Inv := by
 refine ⟨rfl, h, ⟨by show (0 : Int) ≤ 0 + 1; decide, by show (0 : Int) + 1 ≤ _; decide⟩, fun x hx => ?_⟩
 have hx' : x ∈ (List.replicate 8 csNo).set 0 ⟨true, e * 1048576 + 0, 15⟩ := hx
 rcases List.mem_or_eq_of_mem_set hx' with hx | rfl
 · rw [List.eq_of_mem_replicate hx]; exact ⟨⟨by decide, by decide⟩, by decide, by decide⟩
 · refine ⟨⟨?_, ?_⟩, by show (0 : Int) ≤ 15; decide, by show (15 : Int) < 16; decide⟩ <;> simp only <;> omega
end Go.Proofs.YtfpghdcjdnifcaaGreat
namespace Go.Proofs.YtfpghdcjdnifcaaGreat
open Go Go.Sl Go.IntWalk
set_option maxHeartbeats 8000000
set_option maxRecDepth 20000
set_option linter.unusedVariables false
structure Cp where
 q : Int
 b : Int
 p : Int
deriving DecidableEq
def Cp.l (x : Cp) : List Value := [.int .i64 x.q, .int .i64 x.b, .int .i64 x.p]
def Cp.In (x : Cp) : Prop := i64s x.q ∧ i64s x.b ∧ i64s x.p
def Cp.to (x : Cp) : Int := x.b + x.p * 2
def Cp.Ok (s : Int) (x : Cp) : Prop := (1 ≤ x.q ∧ x.q ≤ 64) ∧ (1 ≤ x.p ∧ x.p ≤ 64) ∧ (0 ≤ x.b ∧ x.to ≤ s)
def Apart (x y : Cp) : Prop := x.to ≤ y.b ∨ y.to ≤ x.b
structure Cf where
 fr : Int
 dp : Int
 se : Int
 ps : List Cp
def Cf.v (c : Cf) (a : Option Addr) (n : Nat) : Value := .agg #[.int .i64 c.fr, .int .i64 c.dp, .int .i64 c.se, .slice a c.ps.length n]
structure Cf.In (c : Cf) : Prop where
 fr : i64s c.fr
 dp : i64s c.dp
 se : i64s c.se
 ps : ∀ x ∈ c.ps, x.In
structure Cf.Ok (c : Cf) : Prop where
 len : 1 ≤ c.ps.length ∧ c.ps.length ≤ 16
 fr : 1 ≤ c.fr ∧ c.fr ≤ 64
 dp : 1 ≤ c.dp ∧ c.dp ≤ 8
 se : 1 ≤ c.se ∧ c.se ≤ 1024
 ps : ∀ x ∈ c.ps, x.Ok c.se
 ap : c.ps.Pairwise Apart
 sum : (c.ps.map Cp.q).sum = c.fr
def Cf.Upto (c : Cf) (n : Nat) : Prop := (∀ x ∈ c.ps.take n, x.Ok c.se) ∧ (c.ps.take n).Pairwise Apart
theorem Cf.Upto.zero (c : Cf) : c.Upto 0 := ⟨fun x hx => by simp at hx, by simp⟩
theorem Cf.Upto.le {c : Cf} {m n : Nat} (h : c.Upto n) (hm : m ≤ n) : c.Upto m := by
 obtain ⟨h1, h2⟩ := h
 have e : c.ps.take m = (c.ps.take n).take m := by rw [List.take_take, Nat.min_eq_left hm]
 refine ⟨fun x hx => h1 x ?_, ?_⟩
 · rw [e] at hx; exact List.mem_of_mem_take hx
 · rw [e]; exact h2.sublist (List.take_sublist _ _)
theorem Cf.upto_succ {c : Cf} {n : Nat} (h : n < c.ps.length) : c.Upto (n + 1) ↔ c.Upto n ∧ (c.ps[n]).Ok c.se ∧ ∀ k (hk : k < n), Apart (c.ps[k]'(Nat.lt_trans hk h)) c.ps[n] := by
 unfold Cf.Upto
 rw [List.take_succ_eq_append_getElem h]
 constructor
 ·
  intro ⟨h1, h2⟩
  rw [List.pairwise_append] at h2
  refine ⟨⟨fun x hx => h1 x (List.mem_append_left _ hx), h2.1⟩, h1 _ (List.mem_append_right _ (List.mem_singleton.2 rfl)), fun k hk => ?_⟩
  refine h2.2.2 _ ?_ _ (List.mem_singleton.2 rfl)
  exact List.mem_take_iff_getElem.2 ⟨k, by rw [Nat.min_eq_left (by omega)]; exact hk, rfl⟩
 ·
  intro ⟨⟨h1, h2⟩, h3, h4⟩
  refine ⟨fun x hx => ?_, List.pairwise_append.2 ⟨h2, List.pairwise_singleton _ _, fun x hx y hy => ?_⟩⟩
  ·
   rcases List.mem_append.1 hx with hx | hx
   · exact h1 x hx
   · rw [List.mem_singleton.1 hx]; exact h3
  ·
   rw [List.mem_singleton.1 hy]
   obtain ⟨k, hk, rfl⟩ := List.mem_take_iff_getElem.1 hx
   exact h4 k (by omega)
theorem Cf.ok_iff (c : Cf) : c.Ok ↔ (1 ≤ c.ps.length ∧ c.ps.length ≤ 16) ∧ (1 ≤ c.fr ∧ c.fr ≤ 64) ∧ (1 ≤ c.dp ∧ c.dp ≤ 8) ∧ (1 ≤ c.se ∧ c.se ≤ 1024) ∧ c.Upto c.ps.length ∧ (c.ps.map Cp.q).sum = c.fr := by
 unfold Cf.Upto
 rw [List.take_length]
 exact ⟨fun h => ⟨h.len, h.fr, h.dp, h.se, ⟨h.ps, h.ap⟩, h.sum⟩, fun ⟨a, b, c, d, ⟨e, f⟩, g⟩ => ⟨a, b, c, d, e, f, g⟩⟩
def sumq (l : List Cp) : Int := (l.map Cp.q).sum
theorem sumq_succ {l : List Cp} {n : Nat} (h : n < l.length) : sumq (l.take (n + 1)) = sumq (l.take n) + l[n].q := by
 unfold sumq
 rw [List.take_succ_eq_append_getElem h, List.map_append, List.sum_append]
 simp
theorem sumq_bound {s : Int} : ∀ {l : List Cp}, (∀ x ∈ l, x.Ok s) → 0 ≤ sumq l ∧ sumq l ≤ 64 * (l.length : Int)
 | [], _ => by simp [sumq]
 | x :: l, h => by
  have h1 := sumq_bound (l := l) fun y hy => h y (List.mem_cons_of_mem _ hy)
  have h2 := (h x (List.mem_cons_self ..)).1
  simp only [sumq, List.map_cons, List.sum_cons, List.length_cons] at h1 ⊢
  omega
theorem apart_iff {s : Int} {x y : Cp} (hx : x.Ok s) (hy : y.Ok s) : Apart x y ↔ ¬ ∃ k : Int, (x.b ≤ k ∧ k < x.to) ∧ (y.b ≤ k ∧ k < y.to) := by
 unfold Apart Cp.Ok Cp.to at *
 constructor
 ·
  rintro h ⟨k, h1, h2⟩
  omega
 ·
  intro h
  rcases Classical.em (x.b + x.p * 2 ≤ y.b ∨ y.b + y.p * 2 ≤ x.b) with g | g
  · exact g
  · refine absurd ⟨max x.b y.b, ?_, ?_⟩ h <;> omega
theorem apart_ne {s : Int} {x y : Cp} (hx : x.Ok s) (h : Apart x y) : x ≠ y := by
 rintro rfl
 unfold Apart Cp.Ok Cp.to at *
 omega
def Cp.has (x : Cp) (s : Int) : Prop := x.b ≤ s ∧ s < x.to
instance (x : Cp) (s : Int) : Decidable (x.has s) := by unfold Cp.has; infer_instance
theorem apart_all {c : Cf} {n : Nat} (h : n < c.ps.length) (hu : c.Upto n) (ho : (c.ps[n]).Ok c.se) :
  (∀ k (hk : k < n), Apart (c.ps[k]'(Nat.lt_trans hk h)) c.ps[n]) ↔ ∀ s : Int, 0 ≤ s → s < c.se → (c.ps[n]).has s → ∀ k (hk : k < n), ¬ (c.ps[k]'(Nat.lt_trans hk h)).has s := by
 have hok : ∀ k (hk : k < n), (c.ps[k]'(Nat.lt_trans hk h)).Ok c.se := fun k hk => hu.1 _ (List.mem_take_iff_getElem.2 ⟨k, by rw [Nat.min_eq_left (by omega)]; exact hk, rfl⟩)
 constructor
 ·
  intro ha s _ _ hs k hk hks
  exact (apart_iff (hok k hk) ho).1 (ha k hk) ⟨s, hks, hs⟩
 ·
  intro ha k hk
  refine (apart_iff (hok k hk) ho).2 ?_
  rintro ⟨s, h1, h2⟩
  have h3 := ho.2.2
  exact ha s (by omega) (by omega) h2 k hk h1
end Go.Proofs.YtfpghdcjdnifcaaGreat
namespace Go.Proofs.YtfpghdcjdnifcaaGreat
open Go Go.Sl Go.IntWalk
set_option maxHeartbeats 8000000
set_option maxRecDepth 20000
set_option linter.unusedVariables false
def Cp.v (x : Cp) : Value := .agg #[.int .i64 x.q, .int .i64 x.b, .int .i64 x.p]
def cps (l : List Cp) : List Value := l.flatMap Cp.l
def cpEq (x y : Cp) : Bool := (x.q == y.q) && ((x.b == y.b) && ((x.p == y.p) && true))
theorem cpEq_is (x y : Cp) : cpEq x y = decide (x = y) := by
 obtain ⟨a, b, c⟩ := x
 obtain ⟨d, e, f⟩ := y
 unfold cpEq
 by_cases h1 : a = d <;> by_cases h2 : b = e <;> by_cases h3 : c = f <;> simp [h1, h2, h3]
theorem part_eq (x y : Cp) : EqD Tryz.prog 2 92 x.v y.v (decide (x = y)) := by
 rw [← cpEq_is]
 exact EqD.struct (P := Tryz.prog) (k := 1) (fs := Tryz.prog.fieldsOf 92) (by kernel_rfl) (by kernel_rfl)
  (FEqs.of_sig (sig := [(false, 3, 0), (false, 3, 1), (false, 3, 2)]) (by kernel_rfl)
   ⟨_, _, rfl, rfl, FEqT.one ty_3.1 rfl rfl (EqD.int Tryz.underlying3), _, _, rfl, rfl, FEqT.one ty_3.1 rfl rfl (EqD.int Tryz.underlying3), _, _, rfl, rfl, FEqT.one ty_3.1 rfl rfl (EqD.int Tryz.underlying3), rfl⟩)
theorem part_guard : Tryz.prog.eqGuardType Tryz.prog.depth 92 = false := by kernel_rfl
theorem nePart {n : Nat} {R : HL} {cx : Cx} {ρ : Env} {L : List HL} {ty t' : Nat} {x y : Operand} {f g : Cp} (hx : ev? ρ x = some f.v) (hy : ev? ρ y = some g.v) :
  OpVal Tryz.prog n R cx (.binOp .neq 92 x y t') ty ρ L (.bool (!decide (f = g))) := OpVal.neD (k := 2) hx hy (part_eq f g) (by decide) part_guard
theorem cin_spec (n lo hi : Int) : Ctr Tryz.prog 275 [.int .i64 n, .int .i64 lo, .int .i64 hi] [] [] (fun v L' => v = .bool (decide (lo ≤ n ∧ n ≤ hi)) ∧ L' = []) := by
 refine Ctr.enter (n := 15) [.tmp 6] [(0, _), (1, _), (2, _)] Tryz.func275 rfl rfl rfl (lb rfl) Tryz.call275 ⟨rfl, rfl, rfl, trivial⟩ ?_
 intro cx fin fin0
 refine aG ?_
 by_cases h : lo ≤ n
 ·
  repeat (first | refine gh h ?_ | refine gN fun _ => ?_ | refine gB fun _ => ?_ | fail)
  refine W.ret (fin _ _ (FinOk.first 0 (.tmp rfl .nil) rfl ?_))
  exact ⟨by simp [pack, h], rfl⟩
 ·
  repeat (first | refine gh h ?_ | refine gN fun _ => ?_ | refine gB fun _ => ?_ | fail)
  refine W.ret (fin _ _ (FinOk.first 0 (.tmp rfl .nil) rfl ?_))
  exact ⟨by simp [pack, h], rfl⟩
def Cp.Fit (x : Cp) : Prop := (0 ≤ x.p ∧ x.p ≤ 64) ∧ (0 ≤ x.b ∧ x.b ≤ 1024)
theorem Cp.Ok.fit {se : Int} (hs : se ≤ 1024) {x : Cp} (h : x.Ok se) : x.Fit := by
 unfold Cp.Ok Cp.to at h
 unfold Cp.Fit
 omega
theorem cend_spec (x : Cp) (h : x.Fit) : Ctr Tryz.prog 310 [x.v] [] [] (fun v L' => v = .int .i64 x.to ∧ L' = []) := by
 obtain ⟨q, b, p⟩ := x
 unfold Cp.Fit at h
 simp only [Cp.v] at *
 refine Ctr.enter (n := 9) [.tmp 2] [(0, _)] Tryz.func310 rfl rfl rfl (lb rfl) Tryz.call310 ⟨rfl, trivial⟩ ?_
 intro cx fin fin0
 refine aG ?_
 repeat (first | refine gx ?_ | refine gN fun _ => ?_ | refine gB fun _ => ?_ | fail)
 refine aV (OpVal.mul rfl rfl (i64_in _ (by omega))) ?_
 repeat (first | refine gx ?_ | refine gN fun _ => ?_ | refine gB fun _ => ?_ | fail)
 refine W.order [] rfl ?_
 refine W.ret (fin _ _ (FinOk.first 0 (.tmp rfl .nil) rfl ?_))
 exact ⟨rfl, rfl⟩
theorem cpart_spec (x : Cp) (se : Int) (hs : 1 ≤ se ∧ se ≤ 1024) : Ctr Tryz.prog 276 [x.v, .int .i64 se] [] [] (fun v L' => ∃ s, v = .string s ∧ L' = [] ∧ ((x.Ok se ∧ s = ⟨#[]⟩) ∨ (¬ x.Ok se ∧ (s.toList == (⟨#[]⟩ : ByteArray).toList) = false))) := by
 have h1 := cin_spec x.q 1 64
 have h2 := cin_spec x.p 1 64
 have h3 := cin_spec x.b 0 se
 have h4 := cend_spec x
 unfold Cp.Ok
 obtain ⟨q, b, p⟩ := x
 simp only [Cp.v, Cp.Fit] at *
 have hto : Cp.to ⟨q, b, p⟩ = b + p * 2 := rfl
 generalize Cp.to ⟨q, b, p⟩ = to at *
 refine Ctr.enter (n := 27) [.tmp 4] [(0, _), (1, _)] Tryz.func276 rfl rfl rfl (lb rfl) Tryz.call276 ⟨rfl, rfl, trivial⟩ ?_
 intro cx fin fin0
 refine aG ?_
 repeat (first | refine gx ?_ | refine gN fun _ => ?_ | refine gB fun _ => ?_ | fail)
 refine aC (o := h1) (h := ?_)
 rintro _ _ ⟨rfl, rfl⟩
 refine aG ?_
 rcases Classical.em (1 ≤ q ∧ q ≤ 64) with g1 | g1
 case' inr =>
  repeat (first | refine gh g1 ?_ | refine gN fun _ => ?_ | refine gB fun _ => ?_ | fail)
  refine W.order [] rfl ?_
  refine W.ret (fin _ _ (FinOk.first 0 (.tmp rfl .nil) rfl ?_))
  exact ⟨_, rfl, rfl, .inr ⟨fun h => g1 h.1, by kernel_rfl⟩⟩
 repeat (first | refine gh g1 ?_ | refine gN fun _ => ?_ | refine gB fun _ => ?_ | fail)
 refine aC (o := h2) (h := ?_)
 rintro _ _ ⟨rfl, rfl⟩
 refine aG ?_
 rcases Classical.em (1 ≤ p ∧ p ≤ 64) with g2 | g2
 case' inr =>
  repeat (first | refine gh g2 ?_ | refine gN fun _ => ?_ | refine gB fun _ => ?_ | fail)
  refine W.order [] rfl ?_
  refine W.ret (fin _ _ (FinOk.first 0 (.tmp rfl .nil) rfl ?_))
  exact ⟨_, rfl, rfl, .inr ⟨fun h => g2 h.2.1, by kernel_rfl⟩⟩
 repeat (first | refine gh g2 ?_ | refine gN fun _ => ?_ | refine gB fun _ => ?_ | fail)
 refine aC (o := h3) (h := ?_)
 rintro _ _ ⟨rfl, rfl⟩
 refine aG ?_
 rcases Classical.em (0 ≤ b ∧ b ≤ se) with g3 | g3
 case' inr =>
  repeat (first | refine gh g3 ?_ | refine gN fun _ => ?_ | refine gB fun _ => ?_ | fail)
  refine W.order [] rfl ?_
  refine W.ret (fin _ _ (FinOk.first 0 (.tmp rfl .nil) rfl ?_))
  exact ⟨_, rfl, rfl, .inr ⟨fun h => g3 ⟨h.2.2.1, by have := h.2.2.2; omega⟩, by kernel_rfl⟩⟩
 repeat (first | refine gh g3 ?_ | refine gN fun _ => ?_ | refine gB fun _ => ?_ | fail)
 refine aC (o := h4 (by omega)) (h := ?_)
 rintro _ _ ⟨rfl, rfl⟩
 refine aG ?_
 rcases Classical.em (to > se) with g4 | g4
 ·
  repeat (first | refine gh (gc2 g3 g4) ?_ | refine gN fun _ => ?_ | refine gB fun _ => ?_ | fail)
  refine W.order [] rfl ?_
  refine W.ret (fin _ _ (FinOk.first 0 (.tmp rfl .nil) rfl ?_))
  exact ⟨_, rfl, rfl, .inr ⟨fun h => by have := h.2.2.2; omega, by kernel_rfl⟩⟩
 ·
  repeat (first | refine gh (gc2 g3 g4) ?_ | refine gN fun _ => ?_ | refine gB fun _ => ?_ | fail)
  refine W.order [] rfl ?_
  refine W.ret (fin _ _ (FinOk.first 0 (.tmp rfl .nil) rfl ?_))
  exact ⟨_, rfl, rfl, .inl ⟨⟨g1, g2, g3.1, by omega⟩, rfl⟩⟩
theorem cps_at {l : List Cp} {a : Option Addr} {ro : HL} (h : RoSl 3 (cps l) a l.length ro) {i : Nat} (hi : i < l.length) :
  ∃ b off q e fr, a = some ⟨b, off, none⟩ ∧ ro = [(b, .cells (List.toArray q) e fr)] ∧ ldv? tab 92 q (off + i * 3) = some (l[i]).v := by
 obtain ⟨b, off, q, e, fr, h1, h2, h3, -⟩ := RoSl.at (f := Cp.l) (m := 3) (fun _ => rfl) h hi
 refine ⟨b, off, q, e, fr, h1, h2, ?_⟩
 have hty : look? tab.tys 92 = some (true, 3) := rfl
 unfold ldv?
 rw [hty]
 simp only
 rw [h3]
 rfl
theorem meets_spec (l : List Cp) (hl : l.length ≤ 16) (se : Int) (hse : se ≤ 1024) (hok : ∀ x ∈ l, x.Ok se) (a : Option Addr) (cap : Nat) (hcap : l.length ≤ cap) (ro : HL) (hro : RoSl 3 (cps l) a l.length ro) :
  Ctr Tryz.prog 277 [.slice a l.length cap] [] ro (fun v L' => ∃ j : Int, v = .int .i64 j ∧ L' = [] ∧ ((l.Pairwise Apart ∧ j = -1) ∨ (¬ l.Pairwise Apart ∧ 0 ≤ j))) := by
 refine Ctr.enter (n := 42) [.tmp 2] [(0, _)] Tryz.func277 rfl rfl rfl (lb rfl) Tryz.call277 ⟨rfl, trivial⟩ ?_
 intro cx fin fin0
 refine aG ?_
 repeat (first | refine gx ?_ | refine gN fun _ => ?_ | refine gB fun _ => ?_ | fail)
 refine aLp (fun k ρ1 L1 => ∃ i : Nat, i ≤ l.length ∧ (l.take i).Pairwise Apart ∧ k = l.length - i ∧ ρ1 = [(9, .int .i64 (i : Int)), (8, .int .i64 (l.length : Int)), (7, .slice a l.length cap), (0, .slice a l.length cap)] ∧ L1 = []) (o := ⟨0, Nat.zero_le _, by simp, rfl, rfl, rfl⟩) (h := ?_)
 rintro k ρ1 L1 ⟨i, hi, hp, rfl, rfl, rfl⟩
 refine aG ?_
 rcases Classical.em ((i : Int) < (l.length : Int)) with h | h
 case' inr =>
  have hil : i = l.length := by omega
  repeat (first | refine gh h ?_ | refine gN fun _ => ?_ | refine gB fun _ => ?_ | fail)
  refine W.ret (fin _ _ (FinOk.first 0 (.tmp rfl .nil) rfl ?_))
  exact ⟨-1, rfl, rfl, .inl ⟨by rwa [hil, List.take_length] at hp, rfl⟩⟩
 have hlt : i < l.length := by omega
 have hfi := (hok _ (List.getElem_mem hlt)).fit hse
 obtain ⟨bx, ox, lx, ex, frx, rfl, rfl, hld⟩ := cps_at hro hlt
 repeat (first | refine gh h ?_ | refine gN fun _ => ?_ | refine gB fun _ => ?_ | fail)
 refine aV (OpVal.ixSl tab_ok rfl rfl rfl rfl rfl hlt) ?_
 refine aV (OpVal.load tab_ok rfl (at_ro 0 rfl) hld) ?_
 repeat (first | refine gx ?_ | refine gN fun _ => ?_ | refine gB fun _ => ?_ | fail)
 rename_i b4
 refine aV (OpVal.front tab_ok rfl rfl rfl rfl rfl (show i ≤ cap by omega)) ?_
 repeat (first | refine gx ?_ | refine gN fun _ => ?_ | refine gB fun _ => ?_ | fail)
 have hE1 := cend_spec l[i] hfi
 have htk : l.take (i + 1) = l.take i ++ [l[i]] := List.take_succ_eq_append_getElem hlt
 have hpa := fun (j : Nat) (hjl : j < l.length) (hj : j < i) (hp : l.Pairwise Apart) => List.pairwise_iff_getElem.1 hp j i hjl hlt hj
 generalize l[i] = xi at *
 refine aLp (fun k ρ1 L1 => ∃ j : Nat, j ≤ i ∧ (∀ m y, m < j → l[m]? = some y → Apart y xi) ∧ k = i - j ∧ ρ1 = [(18, .int .i64 (j : Int)), (17, .int .i64 (i : Int)), (16, .slice (some ⟨bx, ox, none⟩) i cap), (3, .int .i64 (i : Int)), (4, .pointer (some ⟨b4, 0, none⟩)), (9, .int .i64 (i : Int)), (8, .int .i64 (l.length : Int)), (7, .slice (some ⟨bx, ox, none⟩) l.length cap), (0, .slice (some ⟨bx, ox, none⟩) l.length cap)] ∧ L1 = [[(b4, .cells #[.int .i64 xi.q, .int .i64 xi.b, .int .i64 xi.p] 92 (0, 0))]]) (o := ⟨0, Nat.zero_le _, (by intro _ _ h; omega), rfl, rfl, rfl⟩) (h := ?_)
 rintro k ρ1 L1 ⟨j, hj, hall, rfl, rfl, rfl⟩
 refine aG ?_
 rcases Classical.em ((j : Int) < (i : Int)) with h2 | h2
 case' inr =>
  have hji : j = i := by omega
  repeat (first | refine gh h2 ?_ | refine gN fun _ => ?_ | refine gB fun _ => ?_ | fail)
  refine W.order [] rfl ?_
  have hp2 : (l.take (i + 1)).Pairwise Apart := by
   rw [htk, List.pairwise_append]
   refine ⟨hp, List.pairwise_singleton _ _, fun x hx y hy => ?_⟩
   rw [List.mem_singleton.1 hy]
   obtain ⟨m, hm, rfl⟩ := List.mem_take_iff_getElem.1 hx
   exact hall m _ (by omega) (List.getElem?_eq_getElem _)
  refine aR (o := ⟨l.length - (i + 1), by omega, i + 1, hlt, hp2, rfl, rfl, rfl⟩)
 have hjl : j < l.length := by omega
 have hfj := (hok _ (List.getElem_mem hjl)).fit hse
 obtain ⟨bx', ox', lx', ex', frx', hb', hr', hld'⟩ := cps_at hro hjl
 cases hb'
 cases hr'
 have hE2 := cend_spec l[j] hfj
 have hne := fun h => apart_ne (hok _ (List.getElem_mem hjl)) (y := xi) h
 have hnp : ¬ Apart l[j] xi → ¬ l.Pairwise Apart := fun h hp => h (hpa j hjl (by omega) hp)
 have hnx : Apart l[j] xi → ∀ m y, m < j + 1 → l[m]? = some y → Apart y xi := fun h m y hm hy => by
  rcases Nat.lt_or_ge m j with hmj | hmj
  · exact hall m y hmj hy
  ·
   have : m = j := by omega
   subst this
   rw [List.getElem?_eq_getElem hjl] at hy
   cases hy
   exact h
 unfold Apart at hne hnp
 have hnx2 : (l[j].to ≤ xi.b ∨ xi.to ≤ l[j].b) → _ := hnx
 generalize l[j] = xj at *
 repeat (first | refine gh h2 ?_ | refine gN fun _ => ?_ | refine gB fun _ => ?_ | fail)
 refine aV (OpVal.ixSl tab_ok rfl rfl rfl rfl rfl (show j < i by omega)) ?_
 refine aV (OpVal.load tab_ok rfl (at_ro 0 rfl) hld') ?_
 repeat (first | refine gx ?_ | refine gN fun _ => ?_ | refine gB fun _ => ?_ | fail)
 refine W.draw follows (by decide +kernel) (zG ?_)
 refine gzx ?_
 refine zV (nePart (f := xi) (g := xj) rfl rfl) ?_
 rcases Classical.em (xi = xj) with g1 | g1
 ·
  have hno := hnp (fun h => hne h g1.symm)
  refine gzh g1 ?_
  refine WZ.nil (aG ?_)
  repeat (first | refine gh g1 ?_ | refine gN fun _ => ?_ | refine gB fun _ => ?_ | fail)
  refine W.order [] rfl ?_
  refine W.ret (fin _ _ (FinOk.first 0 (.tmp rfl .nil) rfl ?_))
  exact ⟨_, rfl, rfl, .inr ⟨hno, by omega⟩⟩
 ·
  refine gzh g1 ?_
  refine zC (o := hE1) (h := ?_)
  refine gzh g1 ?_
  rcases Classical.em (xi.to ≤ xj.b) with g2 | g2
  ·
   refine gzh (gc2 g1 g2) ?_
   refine WZ.nil (aG ?_)
   repeat (first | refine gh (gc2 g1 g2) ?_ | refine gN fun _ => ?_ | refine gB fun _ => ?_ | fail)
   refine W.order [1] rfl ?_
   refine aR (o := ⟨i - (j + 1), by omega, j + 1, by omega, hnx2 (.inr g2), rfl, rfl, rfl⟩)
  ·
   refine gzh (gc2 g1 g2) ?_
   refine zC (o := hE2) (h := ?_)
   refine gzh (gc2 g1 g2) ?_
   rcases Classical.em (xj.to ≤ xi.b) with g3 | g3
   ·
    refine gzh (gc3 g1 g2 g3) ?_
    refine WZ.nil (aG ?_)
    repeat (first | refine gh (gc3 g1 g2 g3) ?_ | refine gN fun _ => ?_ | refine gB fun _ => ?_ | fail)
    refine W.order [1] rfl ?_
    refine aR (o := ⟨i - (j + 1), by omega, j + 1, by omega, hnx2 (.inl g3), rfl, rfl, rfl⟩)
   ·
    have hno := hnp (by omega)
    refine gzh (gc3 g1 g2 g3) ?_
    refine WZ.nil (aG ?_)
    repeat (first | refine gh (gc3 g1 g2 g3) ?_ | refine gN fun _ => ?_ | refine gB fun _ => ?_ | fail)
    refine W.order [] rfl ?_
    refine W.ret (fin _ _ (FinOk.first 0 (.tmp rfl .nil) rfl ?_))
    exact ⟨_, rfl, rfl, .inr ⟨hno, by omega⟩⟩
theorem noStr : ((⟨#[]⟩ : ByteArray).toList == (⟨#[]⟩ : ByteArray).toList) = true := by kernel_rfl
theorem CCheck_spec (c : Cf) (hps : c.ps.length ≤ 9223372036854775807) (a : Option Addr) (cap : Nat) (hcap : c.ps.length ≤ cap) (ro : HL) (hro : RoSl 3 (cps c.ps) a c.ps.length ro) :
  Ctr Tryz.prog 248 [c.v a cap] [] ro (fun v L' => ∃ s i, v = .tuple #[.string s, .int .i64 i] ∧ L' = [] ∧ ((c.Ok ∧ s = ⟨#[]⟩) ∨ (¬ c.Ok ∧ (s.toList == (⟨#[]⟩ : ByteArray).toList) = false))) := by
 have k1 := cin_spec c.ps.length 1 16
 have k2 := cin_spec c.fr 1 64
 have k3 := cin_spec c.dp 1 8
 have k4 := cin_spec c.se 1 1024
 rw [Cf.ok_iff]
 have hP := fun (x : Cp) h => cpart_spec x c.se h
 have hM := fun (j : Nat) (hj : j < c.ps.length) h16 hse hok => meets_spec (c.ps.take (j + 1)) h16 c.se hse hok a cap (by rw [List.length_take]; omega) ro (by rw [List.length_take, Nat.min_eq_left (by omega)]; exact RoSl.take (f := Cp.l) (m := 3) (fun _ => rfl) hro (j + 1) hj)
 obtain ⟨fr, dp, se, ps⟩ := c
 simp only [Cf.Upto] at *
 refine Ctr.enter (n := 62) [.tmp 2, .tmp 3] [(0, _)] Tryz.func248 rfl rfl rfl (lb rfl) Tryz.call248 ⟨rfl, trivial⟩ ?_
 intro cx fin fin0
 refine aG ?_
 repeat (first | refine gx ?_ | refine gN fun _ => ?_ | refine gB fun _ => ?_ | fail)
 rename_i b1
 refine aC (o := k1) (h := ?_)
 rintro _ _ ⟨rfl, rfl⟩
 refine aG ?_
 rcases Classical.em (1 ≤ (ps.length : Int) ∧ (ps.length : Int) ≤ 16) with g1 | g1
 case' inr =>
  repeat (first | refine gh g1 ?_ | refine gN fun _ => ?_ | refine gB fun _ => ?_ | fail)
  refine W.order [] rfl ?_
  refine W.ret (fin _ _ (FinOk.first 0 (.tmp rfl (.tmp rfl .nil)) rfl ?_))
  exact ⟨_, _, rfl, rfl, .inr ⟨fun h => g1 (by have := h.1; omega), by kernel_rfl⟩⟩
 repeat (first | refine gh g1 ?_ | refine gN fun _ => ?_ | refine gB fun _ => ?_ | fail)
 refine aC (o := k2) (h := ?_)
 rintro _ _ ⟨rfl, rfl⟩
 refine aG ?_
 rcases Classical.em (1 ≤ fr ∧ fr ≤ 64) with g2 | g2
 case' inr =>
  repeat (first | refine gh g2 ?_ | refine gN fun _ => ?_ | refine gB fun _ => ?_ | fail)
  refine W.order [] rfl ?_
  refine W.ret (fin _ _ (FinOk.first 0 (.tmp rfl (.tmp rfl .nil)) rfl ?_))
  exact ⟨_, _, rfl, rfl, .inr ⟨fun h => g2 h.2.1, by kernel_rfl⟩⟩
 repeat (first | refine gh g2 ?_ | refine gN fun _ => ?_ | refine gB fun _ => ?_ | fail)
 refine aC (o := k3) (h := ?_)
 rintro _ _ ⟨rfl, rfl⟩
 refine aG ?_
 rcases Classical.em (1 ≤ dp ∧ dp ≤ 8) with g3 | g3
 case' inr =>
  repeat (first | refine gh g3 ?_ | refine gN fun _ => ?_ | refine gB fun _ => ?_ | fail)
  refine W.order [] rfl ?_
  refine W.ret (fin _ _ (FinOk.first 0 (.tmp rfl (.tmp rfl .nil)) rfl ?_))
  exact ⟨_, _, rfl, rfl, .inr ⟨fun h => g3 h.2.2.1, by kernel_rfl⟩⟩
 repeat (first | refine gh g3 ?_ | refine gN fun _ => ?_ | refine gB fun _ => ?_ | fail)
 refine aC (o := k4) (h := ?_)
 rintro _ _ ⟨rfl, rfl⟩
 refine aG ?_
 rcases Classical.em (1 ≤ se ∧ se ≤ 1024) with g4 | g4
 case' inr =>
  repeat (first | refine gh g4 ?_ | refine gN fun _ => ?_ | refine gB fun _ => ?_ | fail)
  refine W.order [] rfl ?_
  refine W.ret (fin _ _ (FinOk.first 0 (.tmp rfl (.tmp rfl .nil)) rfl ?_))
  exact ⟨_, _, rfl, rfl, .inr ⟨fun h => g4 h.2.2.2.1, by kernel_rfl⟩⟩
 repeat (first | refine gh g4 ?_ | refine gN fun _ => ?_ | refine gB fun _ => ?_ | fail)
 refine aLp (fun k ρ1 L1 => ∃ i : Nat, i ≤ ps.length ∧ (∀ x ∈ ps.take i, x.Ok se) ∧ (ps.take i).Pairwise Apart ∧ k = ps.length - i ∧ ρ1 = [(32, .int .i64 (i : Int)), (31, .int .i64 (ps.length : Int)), (30, .slice a ps.length cap), (4, .int .i64 (sumq (ps.take i))), (1, .pointer (some ⟨b1, 0, none⟩))] ∧ L1 = [[(b1, .cells #[.int .i64 fr, .int .i64 dp, .int .i64 se, .slice a ps.length cap] 24 (0, 0))]]) (o := ⟨0, Nat.zero_le _, (by intro x hx; simp at hx), by simp, rfl, rfl, rfl⟩) (h := ?_)
 rintro k ρ1 L1 ⟨i, hi, hok, hpw, rfl, rfl, rfl⟩
 refine aG ?_
 rcases Classical.em ((i : Int) < (ps.length : Int)) with h | h
 case' inr =>
  have hil : i = ps.length := by omega
  subst hil
  rw [List.take_length]
  rcases Classical.em (sumq ps = fr) with g5 | g5
  ·
   repeat (first | refine gh (gc2 h g5) ?_ | refine gN fun _ => ?_ | refine gB fun _ => ?_ | fail)
   refine W.order [] rfl ?_
   refine W.ret (fin _ _ (FinOk.first 0 (.tmp rfl (.tmp rfl .nil)) rfl ?_))
   exact ⟨_, _, rfl, rfl, .inl ⟨⟨by omega, g2, g3, g4, ⟨hok, hpw⟩, g5⟩, rfl⟩⟩
  ·
   repeat (first | refine gh (gc2 h g5) ?_ | refine gN fun _ => ?_ | refine gB fun _ => ?_ | fail)
   refine W.order [] rfl ?_
   refine W.ret (fin _ _ (FinOk.first 0 (.tmp rfl (.tmp rfl .nil)) rfl ?_))
   exact ⟨_, _, rfl, rfl, .inr ⟨fun h => g5 h.2.2.2.2.2, by kernel_rfl⟩⟩
 have hlt : i < ps.length := by omega
 obtain ⟨bx, ox, lx, ex, frx, rfl, rfl, hld⟩ := cps_at hro hlt
 have hsq := sumq_succ hlt
 have hsb := sumq_bound hok
 have hlen : (ps.take i).length ≤ 16 := by rw [List.length_take]; omega
 have hmem : ∀ m, i < m → ps[i] ∈ ps.take m := fun m hm => List.mem_take_iff_getElem.2 ⟨i, by omega, rfl⟩
 repeat (first | refine gh h ?_ | refine gN fun _ => ?_ | refine gB fun _ => ?_ | fail)
 refine aV (OpVal.ixSl tab_ok rfl rfl rfl rfl rfl hlt) ?_
 refine aV (OpVal.load tab_ok rfl (at_ro 0 rfl) hld) ?_
 repeat (first | refine gx ?_ | refine gN fun _ => ?_ | refine gB fun _ => ?_ | fail)
 refine aC (o := hP ps[i] g4) (h := ?_)
 rintro _ _ ⟨s, rfl, rfl, hs⟩
 refine aG ?_
 repeat (first | refine gx ?_ | refine gN fun _ => ?_ | refine gB fun _ => ?_ | fail)
 refine aV (OpVal.neStr rfl rfl) ?_
 rcases hs with ⟨hx, rfl⟩ | ⟨hx, hs⟩
 case' inr =>
  refine aT ?_ (hb := by rw [hs]; rfl)
  refine W.order [] rfl ?_
  refine W.ret (fin _ _ (FinOk.first 0 (.tmp rfl (.tmp rfl .nil)) rfl ?_))
  refine ⟨_, _, rfl, rfl, .inr ⟨fun h => hx (h.2.2.2.2.1.1 _ (by rw [List.take_length]; exact List.getElem_mem hlt)), hs⟩⟩
 have hok2 : ∀ x ∈ ps.take (i + 1), x.Ok se := fun x hx2 => by
  rw [List.take_succ_eq_append_getElem hlt] at hx2
  rcases List.mem_append.1 hx2 with h | h
  · exact hok x h
  · rw [List.mem_singleton.1 h]; exact hx
 have hM2 := hM i hlt (by rw [List.length_take]; omega) g4.2 hok2
 rw [List.length_take, Nat.min_eq_left (by omega)] at hM2
 refine aF ?_ (hb := by rw [noStr]; rfl)
 repeat (first | refine gx ?_ | refine gN fun _ => ?_ | refine gB fun _ => ?_ | fail)
 rw [show (i : Int) + 1 = ((i + 1 : Nat) : Int) from rfl]
 refine aV (OpVal.front tab_ok rfl rfl rfl rfl rfl (show i + 1 ≤ cap by omega)) ?_
 refine aC (o := hM2) (h := ?_) (hro := RoIn.same)
 rintro _ _ ⟨j, rfl, rfl, hj⟩
 refine aG ?_
 rcases hj with ⟨hpw2, rfl⟩ | ⟨hnp, hj⟩
 case' inr =>
  repeat (first | refine gh hj ?_ | refine gN fun _ => ?_ | refine gB fun _ => ?_ | fail)
  refine W.order [] rfl ?_
  refine W.ret (fin _ _ (FinOk.first 0 (.tmp rfl (.tmp rfl .nil)) rfl ?_))
  refine ⟨_, _, rfl, rfl, .inr ⟨fun h => hnp ?_, by kernel_rfl⟩⟩
  have := h.2.2.2.2.1.2
  rw [List.take_length] at this
  exact this.sublist (List.take_sublist _ _)
 have hx2 := hx.1
 repeat (first | refine gx ?_ | refine gN fun _ => ?_ | refine gB fun _ => ?_ | fail)
 rw [← hsq]
 refine W.order [1] rfl ?_
 refine aR (o := ⟨ps.length - (i + 1), by omega, i + 1, hlt, hok2, hpw2, rfl, rfl, rfl⟩)
theorem CMay_spec (c : Cf) (hps : c.ps.length ≤ 9223372036854775807) (a : Option Addr) (cap : Nat) (hcap : c.ps.length ≤ cap) (ro : HL) (hro : RoSl 3 (cps c.ps) a c.ps.length ro) :
  Ctr Tryz.prog 206 [c.v a cap] [] ro (fun v L' => ∃ b, v = .bool b ∧ L' = [] ∧ (b = true ↔ c.Ok)) := by
 have hC := CCheck_spec c hps a cap hcap ro hro
 obtain ⟨fr, dp, se, ps⟩ := c
 simp only [Cf.v] at *
 refine Ctr.enter (n := 12) [.tmp 2] [(0, _)] Tryz.func206 rfl rfl rfl (lb rfl) Tryz.call206 ⟨rfl, trivial⟩ ?_
 intro cx fin fin0
 refine aG ?_
 repeat (first | refine gx ?_ | refine gN fun _ => ?_ | refine gB fun _ => ?_ | fail)
 refine aC (o := hC) (h := ?_)
 rintro _ _ ⟨s, i, rfl, rfl, hs⟩
 refine aG ?_
 repeat (first | refine gx ?_ | refine gN fun _ => ?_ | refine gB fun _ => ?_ | fail)
 refine aV (OpVal.eqStr rfl rfl) ?_
 repeat (first | refine gx ?_ | refine gN fun _ => ?_ | refine gB fun _ => ?_ | fail)
 refine W.order [] rfl ?_
 refine W.ret (fin _ _ (FinOk.first 0 (.tmp rfl .nil) rfl ?_))
 refine ⟨_, rfl, rfl, ?_⟩
 rcases hs with ⟨h, rfl⟩ | ⟨h, hs⟩
 · exact ⟨fun _ => h, fun _ => noStr⟩
 · rw [hs]; exact ⟨fun h => (by cases h), fun h2 => absurd h2 h⟩
theorem cps_one (l : List Cp) : allOne (cps l) = true := allOne_of fun v hv => by
 obtain ⟨x, -, hx⟩ := List.mem_flatMap.1 hv
 simp only [Cp.l, List.mem_cons, List.not_mem_nil, or_false] at hx
 rcases hx with rfl | rfl | rfl <;> rfl
theorem PsClone_spec (l : List Cp) (h1 : 1 ≤ l.length) (h2 : l.length ≤ 16) (a : Option Addr) (cap : Nat) (ro : HL) (hro : RoSl 3 (cps l) a l.length ro) :
  Ctr Tryz.prog 141 [.slice a l.length cap] [] ro (fun v L' => ∃ a' cap' H, v = .slice a' l.length cap' ∧ L' = [H] ∧ Own 3 92 (cps l) a' l.length cap' H) := by
 rcases hro.2 with ⟨h0, _⟩ | ⟨bx, ox, lx, ex, frx, rfl, rfl, hlx, hcx⟩
 · omega
 have hn : seg? lx ox (l.length * 3) = some (cps l) := by rw [seg?_of _ _ _ hlx, hcx]
 refine Ctr.enter (n := 8) [.tmp 2] [(0, _)] Tryz.func141 rfl rfl rfl (lb rfl) Tryz.call141 ⟨rfl, trivial⟩ ?_
 intro cx fin fin0
 refine aG ?_
 refine aV (OpVal.eqNilSl tab_ok rfl rfl rfl) ?_
 refine aF ?_ (hb := by rfl)
 refine aSl (ps := []) ?_
 intro bt
 refine aG ?_
 refine aAp (Own.exact (cs := []) bt rfl) ?_ (hn := hn) (h1 := (cps_one l))
 rintro _ _ ⟨a', cap', H', rfl, rfl, ho⟩
 refine aG ?_
 refine W.ret (fin _ _ (FinOk.first 1 (.tmp rfl .nil) rfl ?_))
 rw [Nat.zero_add] at ho
 refine ⟨a', cap', H', ?_, rfl, ho⟩
 rw [Nat.zero_add]
 rfl
theorem CClone_spec (c : Cf) (h1 : 1 ≤ c.ps.length) (h2 : c.ps.length ≤ 16) (a : Option Addr) (cap : Nat) (ro : HL) (hro : RoSl 3 (cps c.ps) a c.ps.length ro) :
  Ctr Tryz.prog 84 [c.v a cap] [] ro (fun v L' => ∃ a' cap' H, v = c.v a' cap' ∧ L' = [H] ∧ Own 3 92 (cps c.ps) a' c.ps.length cap' H) := by
 have hC := PsClone_spec c.ps h1 h2 a cap ro hro
 obtain ⟨fr, dp, se, ps⟩ := c
 simp only [Cf.v] at *
 refine Ctr.enter (n := 8) [.cell 2 24] [(0, _)] Tryz.func84 rfl rfl rfl (lb rfl) Tryz.call84 ⟨rfl, trivial⟩ ?_
 intro cx fin fin0
 refine aG ?_
 repeat (first | refine gx ?_ | refine gN fun _ => ?_ | refine gB fun _ => ?_ | fail)
 refine aC (o := hC) (h := ?_)
 rintro _ _ ⟨a', cap', H, rfl, rfl, ho⟩
 refine aG ?_
 repeat (first | refine gx ?_ | refine gN fun _ => ?_ | refine gB fun _ => ?_ | fail)
 refine W.order [0, 0] rfl ?_
 refine W.ret (fin _ _ (FinOk.first 1 (aRc .nil) rfl ?_))
 exact ⟨_, _, _, rfl, rfl, ho⟩
end Go.Proofs.YtfpghdcjdnifcaaGreat
namespace Go.Proofs.YtfpghdcjdnifcaaGreat
open Go Go.Sl Go.IntWalk
set_option maxHeartbeats 8000000
set_option maxRecDepth 20000
set_option linter.unusedVariables false
def le8 (n : Int) : List Int := [n % 256, n / 256 % 256, n / 65536 % 256, n / 16777216 % 256, n / 4294967296 % 256, n / 1099511627776 % 256, n / 281474976710656 % 256, n / 72057594037927936 % 256]
def les (l : List Int) : List Int := l.flatMap le8
def un8 : List Int → Int
 | [] => 0
 | c :: r => c + 256 * un8 r
def s64 (n : Int) : Int := if n < 9223372036854775808 then n else n - 18446744073709551616
theorem le8_len (n : Int) : (le8 n).length = 8 := rfl
theorem les_len : ∀ l : List Int, (les l).length = 8 * l.length
 | [] => rfl
 | n :: l => by
  have := les_len l
  unfold les at this ⊢
  rw [List.flatMap_cons, List.length_append, this, le8_len, List.length_cons]
  omega
theorem le8_ok (n : Int) : u8ok (le8 n) := by
 intro x hx
 simp only [le8, List.mem_cons, List.not_mem_nil, or_false] at hx
 rcases hx with rfl | rfl | rfl | rfl | rfl | rfl | rfl | rfl <;> constructor <;> omega
theorem un8_le8 {n : Int} (h : -9223372036854775808 ≤ n ∧ n < 9223372036854775808) : un8 (le8 n) = if n < 0 then n + 18446744073709551616 else n := by
 simp only [le8, un8]
 split <;> omega
theorem s64_le8 {n : Int} (h : -9223372036854775808 ≤ n ∧ n < 9223372036854775808) : s64 (un8 (le8 n)) = n := by
 rw [un8_le8 h]
 unfold s64
 split <;> split <;> omega
theorem un8_range : ∀ {l : List Int}, u8ok l → 0 ≤ un8 l ∧ un8 l < 256 ^ l.length
 | [], _ => by simp [un8]
 | c :: r, h => by
  have h1 := un8_range (l := r) (fun x hx => h x (List.mem_cons_of_mem _ hx))
  have h2 := h c (List.mem_cons_self ..)
  rw [un8, List.length_cons, Int.pow_succ]
  omega
structure Rd where
 b : List Int
 bad : Bool
def Rd.take (r : Rd) (n : Int) : List Int × Rd := if r.bad = true ∨ (r.b.length : Int) < n then ([], ⟨[], true⟩) else (r.b.take n.toNat, ⟨r.b.drop n.toNat, false⟩)
def Rd.uint (r : Rd) : Int × Rd := (un8 (r.take 8).1, (r.take 8).2)
def Rd.int (r : Rd) : Int × Rd := (s64 (un8 (r.take 8).1), (r.take 8).2)
def Rd.bytes (r : Rd) (most : Int) : List Int × Rd := if most < 0 ∨ most < r.uint.1 then (⟨[], true⟩ : Rd).take r.uint.1 else r.uint.2.take r.uint.1
def Rd.end_ (r : Rd) : Int := if 0 < r.b.length ∨ r.bad = true then 2 else 0
theorem int_le8 {n : Int} (h : -9223372036854775808 ≤ n ∧ n ≤ 9223372036854775807) (r : List Int) : (⟨le8 n ++ r, false⟩ : Rd).int = (n, ⟨r, false⟩) := by
 have e : (⟨le8 n ++ r, false⟩ : Rd).take 8 = (le8 n, ⟨r, false⟩) := by
  unfold Rd.take
  rw [if_neg (by simp only [List.length_append, le8_len]; simp; omega)]
  rfl
 unfold Rd.int
 rw [e]
 show (s64 (un8 (le8 n)), _) = _
 rw [s64_le8 ⟨h.1, by omega⟩]
def Rq.I (c : Int × Int) (q : Rq) : Prop := i64s c.1 ∧ i64s c.2 ∧ i64s q.op ∧ i64s q.page ∧ i64s q.off ∧ i64s q.len
end Go.Proofs.YtfpghdcjdnifcaaGreat
namespace Go.Proofs.YtfpghdcjdnifcaaGreat
open Go Go.Sl Go.IntWalk
set_option maxHeartbeats 8000000
set_option maxRecDepth 20000
set_option linter.unusedVariables false
theorem appFull {n : Nat} {R : HL} {cx : Cx} {ρ : Env} {L : List HL} {e m bytes : Nat} (hi : InfOk Tryz.prog e m bytes) {t ty : TypeId} {s x : Operand} {cs news : List Value} {a : Option Addr} {len nx cxx bx ox : Nat} {ro : HL}
  {lx : List Value} {ex : TypeId} {frx : Nat × Nat} (ht : Tryz.prog.underlying t = some (.slice e)) (hs : ev? ρ s = some (.slice a len len)) (ho : RoSl m cs a len ro)
  (hH : ∀ p ∈ ro, At R L p.1 p.2) (hx : ev? ρ x = some (.slice (some ⟨bx, ox, none⟩) nx cxx)) (hb : At R L bx (.cells lx.toArray ex frx)) (hn : seg? lx ox (nx * m) = some news)
  (h0 : 0 < nx) (hbig : (len + nx) * bytes ≤ 140737488355328) (hbig2 : len + nx ≤ 140737488355328) :
  Prim Tryz.prog n R cx (.call ⟨.builtin .append, #[s, x], #[t, t]⟩) ty ρ L [] (fun v L' => ∃ a' cap' H', v = .slice a' (len + nx) cap' ∧ L' = [H'] ∧ Own m e (cs ++ news) a' (len + nx) cap' H') := by
 obtain ⟨i, z, hi1, hi2, rfl, rfl, hi5, hi6⟩ := hi
 obtain ⟨hn1, hn2⟩ := seg?_eq lx ox (nx * i.size) hn
 have hnl : news.length = nx * i.size := by rw [hn2]; simp; omega
 refine ⟨fun oo ac w hoo hty hf hst => ?_⟩
 have hcell : ∀ j v, news[j]? = some v → w.cell? ((⟨bx, ox, none⟩ : Addr).add j) = some v := by
  intro j v hj
  rw [Addr.add_none', cell_of_row w bx (ox + j) _ ex frx (hb.heap hst)]
  have hjm : j < nx * i.size := by rw [← hnl]; exact (List.getElem?_eq_some_iff.1 hj).1
  rw [hn2, List.getElem?_take, if_pos hjm, List.getElem?_drop] at hj
  simpa using hj
 have hrun : ∀ r w', (Builtin.append_ #[t, t] oo.type #[.slice a len len, .slice (some ⟨bx, ox, none⟩) nx cxx]).run Tryz.prog w = .ok r w' → (execOp ac.eval oo).run Tryz.prog w = .ok (.value r) w' := by
  intro r w' hr
  unfold execOp
  rw [hoo]
  simp [resolve, invoke, builtin, hf.ev hs, hf.ev hx, hr]
 have grownL : ∀ old : Nat, Own i.size e (cs ++ news) (some ⟨w.heap.size, 0, none⟩) (len + nx) (grownCap w (len + nx) old e)
   [(w.heap.size, .cells (cs ++ news ++ (Builtin.zeroCells z.cells (grownCap w (len + nx) old e - (len + nx))).toList).toArray e (0, 0))] := by
  intro old
  have hge := grownCap_ge w (len + nx) old e
  have hlen : (cs ++ news).length = (len + nx) * i.size := by rw [List.length_append, ho.1, hnl, Nat.add_mul]
  refine ⟨hlen, .inr ⟨_, _, rfl, rfl, hge, ?_, ?_⟩⟩
  ·
   rw [List.length_append, hlen, zeroCells_len, hi5, ← Nat.add_mul]
   congr 1
   omega
  · rw [← hlen]; exact List.take_left
 cases a with
 | none =>
  have hl0 : len = 0 := by
   rcases ho.2 with ⟨h, -⟩ | ⟨_, _, _, _, _, h, _⟩
   · exact h
   · cases h
  subst hl0
  have hc0 : cs = [] := List.eq_nil_of_length_eq_zero (by simpa using ho.1)
  subst hc0
  have hr := run_append_nil (P := Tryz.prog) w t oo.type e i z ht hi1 hi2 ⟨bx, ox, none⟩ nx cxx news hnl hcell h0 (by omega) (by rw [Nat.zero_add] at hbig; omega)
  refine ⟨.slice (some ⟨w.heap.size, 0, none⟩) (0 + nx) (grownCap w (0 + nx) 0 e), [[(w.heap.size, .cells ([] ++ news ++ (Builtin.zeroCells z.cells (grownCap w (0 + nx) 0 e - (0 + nx))).toList).toArray e (0, 0))]],
   w.drew.alloc (.cells ([] ++ news ++ (Builtin.zeroCells z.cells (grownCap w (0 + nx) 0 e - (0 + nx))).toList).toArray e (0, 0)), hrun _ _ ?_, ⟨_, _, _, rfl, rfl, grownL 0⟩, St.fresh w _ _ _⟩
  rw [hr]
  simp only [Nat.zero_add, List.nil_append, Result.ok.injEq, true_and]
  congr 2
  apply Array.ext'
  simp
 | some ad =>
  have holds : ∀ j v, cs[j]? = some v → w.cell? (ad.add j) = some v := by
   intro j v hj
   rcases ho.2 with ⟨rfl, -⟩ | ⟨b, off, l, e', fr, hb', rfl, hl, htk⟩
   ·
    have hc0 : cs = [] := List.eq_nil_of_length_eq_zero (by simpa using ho.1)
    subst hc0
    cases hj
   ·
    cases hb'
    have hg := (hH (b, .cells (List.toArray l) e' fr) (by simp)).heap hst
    rw [Addr.add_none', cell_of_row w b (off + j) _ e' fr hg]
    rw [← htk, List.getElem?_take] at hj
    split at hj
    ·
     rw [List.getElem?_drop] at hj
     simpa using hj
    · cases hj
  have hr := run_append_grow (P := Tryz.prog) w t oo.type e i z ht hi1 hi2 ad len len cs ho.1 holds ⟨bx, ox, none⟩ nx cxx news hnl hcell (by omega) (by omega) (growslice_fits (by omega) hbig)
  refine ⟨.slice (some ⟨w.heap.size, 0, none⟩) (len + nx) (grownCap w (len + nx) len e), [[(w.heap.size, .cells (cs ++ news ++ (Builtin.zeroCells z.cells (grownCap w (len + nx) len e - (len + nx))).toList).toArray e (0, 0))]],
   w.drew.alloc (.cells (cs ++ news ++ (Builtin.zeroCells z.cells (grownCap w (len + nx) len e - (len + nx))).toList).toArray e (0, 0)), hrun _ _ ?_, ⟨_, _, _, rfl, rfl, grownL len⟩, St.fresh w _ _ _⟩
  rw [hr]
  simp only [Result.ok.injEq, true_and]
  congr 2
  apply Array.ext'
  simp
theorem fullSl {n : Nat} {R : HL} {cx : Cx} {ρ : Env} {L : List HL} {t e ty : TypeId} {x y z : Operand} {a : Option Addr} {len h cap m : Nat} {ag : Bool} {kk k2 : IntKind}
  (hx : ev? ρ x = some (.slice a len cap)) (ht : look? tab.sls t = some e) (hz : look? tab.tys e = some (ag, m)) (hy : ev? ρ y = some (.int kk (h : Int))) (hw : ev? ρ z = some (.int k2 (h : Int))) (h2 : h ≤ cap) :
  OpVal Tryz.prog n R cx (.slice t x none (some y) (some z)) ty ρ L (.slice a h h) := by
 refine ⟨fun oo ac w ho hty hf hs => ?_⟩
 have hu := tab_ok.sls _ (look?_mem ht)
 have hz' := (tab_ok.tys _ (look?_mem hz)).2
 unfold execOp; rw [ho]
 cases a <;> simp [Instr.sliceAt, Instr.slice, Instr.sliceBounds, Instr.sliceBound, asIntOf, underlying, hu, hf.ev hx, hf.ev hy, hf.ev hw, hz' w, h2, Addr.add]
theorem le8_chk (a : Nat) : le8 (a : Int) = chk a 8 := by
 simp only [le8, chk, List.nil_append, List.cons_append]
 refine List.ext_getElem rfl fun i h1 h2 => ?_
 have hi : i = 0 ∨ i = 1 ∨ i = 2 ∨ i = 3 ∨ i = 4 ∨ i = 5 ∨ i = 6 ∨ i = 7 := by simp at h1; omega
 rcases hi with rfl | rfl | rfl | rfl | rfl | rfl | rfl | rfl <;> simp <;> omega
theorem le8_wrap (n : Int) : le8 (n + 18446744073709551616) = le8 n := by
 refine List.ext_getElem rfl fun i h1 h2 => ?_
 have hi : i = 0 ∨ i = 1 ∨ i = 2 ∨ i = 3 ∨ i = 4 ∨ i = 5 ∨ i = 6 ∨ i = 7 := by simp [le8] at h1; omega
 rcases hi with rfl | rfl | rfl | rfl | rfl | rfl | rfl | rfl <;> simp only [le8, List.getElem_cons_zero, List.getElem_cons_succ] <;> omega
theorem LUint_spec (bs : List Int) (hl : bs.length ≤ 1000000) (a : Option Addr) (cap : Nat) (hcap : bs.length ≤ cap) (ro : HL) (hro : RoSl 1 (u8s bs) a bs.length ro) (x : Nat) (hx : x < 18446744073709551616) :
  Ctr Tryz.prog 207 [.slice a bs.length cap, .int .u64 (x : Int)] [] ro (fun v L' => ∃ a' cap' H, v = .slice a' (bs ++ le8 (x : Int)).length cap' ∧ L' = [H] ∧ Own 1 5 (u8s (bs ++ le8 (x : Int))) a' (bs ++ le8 (x : Int)).length cap' H) := by
 rw [le8_chk]
 have hinf : InfOk Tryz.prog 5 1 1 := tab_ok.infs _ (look?_mem (show look? tab.infs 5 = some (1, 1) from rfl))
 refine Ctr.enter (n := 25) [.tmp 4] [(0, _), (1, _)] Tryz.func207 rfl rfl rfl (lb rfl) Tryz.call207 ⟨rfl, rfl, trivial⟩ ?_
 intro cx fin fin0
 refine aG ?_
 repeat (first | refine gx ?_ | refine gN fun _ => ?_ | refine gB fun _ => ?_ | fail)
 refine aV (fullSl rfl rfl rfl rfl rfl hcap) ?_
 refine W.nilChunk ?_
 refine aLp (fun k ρ1 L1 => ∃ (j : Nat) (a1 : Option Addr) (c1 : Nat) (H1 : HL), j ≤ 8 ∧ k = 8 - j ∧ ((j = 0 ∧ a1 = a ∧ c1 = bs.length ∧ H1 = []) ∨ (1 ≤ j ∧ Own 1 5 (u8s (bs ++ chk x j)) a1 (bs.length + j) c1 H1)) ∧ ρ1 = [(12, .int .i64 (j : Int)), (1, .int .u64 (x : Int)), (0, .slice a1 (bs.length + j) c1)] ∧ L1 = [H1]) (o := ⟨0, a, bs.length, [], by decide, rfl, .inl ⟨rfl, rfl, rfl, rfl⟩, rfl, rfl⟩) (h := ?_)
 rintro k ρ1 L1 ⟨j, a1, c1, H1, hj, rfl, hcs, rfl, rfl⟩
 refine aG ?_
 by_cases hlt : j < 8
 ·
  have hz : (j : Int) < 8 := by omega
  have e1 : x / 2 ^ (8 * j) = x / 256 ^ j := by rw [Nat.pow_mul]
  repeat (first | refine gh hz ?_ | refine gN fun _ => ?_ | refine gB fun _ => ?_ | fail)
  refine aV (OpVal.mul (r := ((8 * j : Nat) : Int)) rfl rfl (by rw [i64_in _ (by omega)]; omega)) ?_
  refine aV (OpVal.shrN (a := x) (c := 8 * j) rfl rfl rfl rfl (by show 8 * j ≤ 64; omega)) ?_
  rw [e1]
  refine aV (OpVal.conv tab_ok rfl rfl rfl (u8mod (x / 256 ^ j))) ?_
  refine aSl (ps := [_]) ?_
  intro bt
  refine aG ?_
  rcases hcs with ⟨rfl, rfl, rfl, rfl⟩ | ⟨h1j, how⟩
  ·
   refine aPr (appFull hinf Tryz.underlying54 rfl hro (fun q hq => .inr hq) rfl (at_own 0 rfl) rfl (by decide) (by omega) (by omega)) ?_
   rintro _ _ ⟨a2, c2, H2, rfl, rfl, ho⟩
   refine aG ?_
   have e2 : u8s bs ++ [.int .u8 ((x / 256 ^ 0 % 256 : Nat) : Int)] = u8s (bs ++ chk x 1) := by
    rw [show chk x 1 = [((x / 256 ^ 0 % 256 : Nat) : Int)] from rfl, u8s_append bs]
    rfl
   rw [e2] at ho
   repeat (first | refine gh hz ?_ | refine gN fun _ => ?_ | refine gB fun _ => ?_ | fail)
   refine W.order [0] rfl ?_
   refine aR (o := ⟨7, by omega, 1, _, _, _, by omega, rfl, .inr ⟨Nat.le_refl _, ho⟩, rfl, rfl⟩)
  ·
   refine aAp (how) ?_
   rintro _ _ ⟨_, _, _, rfl, rfl, ho⟩
   refine aG ?_
   have e2 : u8s (bs ++ chk x j) ++ [.int .u8 ((x / 256 ^ j % 256 : Nat) : Int)] = u8s (bs ++ chk x (j + 1)) := by
    rw [show chk x (j + 1) = chk x j ++ [((x / 256 ^ j % 256 : Nat) : Int)] from rfl, ← List.append_assoc, u8s_append (bs ++ chk x j)]
    rfl
   rw [e2] at ho
   repeat (first | refine gh hz ?_ | refine gN fun _ => ?_ | refine gB fun _ => ?_ | fail)
   refine aR (o := ⟨8 - (j + 1), by omega, j + 1, _, _, _, by omega, rfl, .inr ⟨by omega, ho⟩, rfl, rfl⟩)
 ·
  obtain rfl : j = 8 := by omega
  rcases hcs with ⟨h, -⟩ | ⟨-, how⟩
  · cases h
  repeat (first | refine gx ?_ | refine gN fun _ => ?_ | refine gB fun _ => ?_ | fail)
  refine W.ret (fin _ _ (FinOk.first 1 (.tmp rfl .nil) rfl ?_))
  exact ⟨_, _, _, by rw [List.length_append, chk_len]; rfl, rfl, by rw [List.length_append, chk_len]; exact how⟩
theorem les_ok (l : List Int) : u8ok (les l) := fun x hx => by
 obtain ⟨n, -, hn⟩ := List.mem_flatMap.1 hx
 exact le8_ok n x hn
theorem les_append (a b : List Int) : les (a ++ b) = les a ++ les b := by simp [les]
theorem u64_of {x : Int} (h : i64s x) : ∃ u : Nat, IntKind.u64.wrap x = (u : Int) ∧ u < 18446744073709551616 ∧ le8 (u : Int) = le8 x := by
 obtain ⟨h1, h2⟩ := h
 rcases Int.lt_or_le x 0 with h0 | h0
 ·
  refine ⟨(x + 18446744073709551616).toNat, ?_, by omega, ?_⟩
  · rw [IntKind.wrap_u64]; omega
  · rw [show (((x + 18446744073709551616).toNat : Nat) : Int) = x + 18446744073709551616 from by omega, le8_wrap]
 ·
  refine ⟨x.toNat, ?_, by omega, by rw [show ((x.toNat : Nat) : Int) = x from by omega]⟩
  rw [IntKind.wrap_u64]; omega
def Kpt (bs : List Int) (a : Option Addr) (c : Nat) (H ro : HL) : Prop := bs.length ≤ c ∧ ∃ r, RoSl 1 (u8s bs) a bs.length r ∧ ∀ q ∈ r, q ∈ H ∨ q ∈ ro
theorem Kpt.own {bs : List Int} {a : Option Addr} {c : Nat} {H ro : HL} (h : Own 1 5 (u8s bs) a bs.length c H) : Kpt bs a c H ro := by
 refine ⟨?_, H, Own.roSl h, fun q hq => .inl hq⟩
 rcases h.2 with ⟨_, h1, h2, _⟩ | ⟨_, _, _, _, h1, _⟩ <;> omega
theorem LInts_spec (bs : List Int) (hl : bs.length ≤ 10000) (a : Option Addr) (cap : Nat) (hcap : bs.length ≤ cap) (ro : HL) (hro : RoSl 1 (u8s bs) a bs.length ro) (xs : List Int) (h1 : 1 ≤ xs.length) (h2 : xs.length ≤ 1000) (hx : ∀ x ∈ xs, i64s x) (ax : Option Addr) (cx0 : Nat) (rx : HL) (hrx : RoSl 1 (ints xs) ax xs.length rx) :
  Ctr Tryz.prog 139 [.slice a bs.length cap, .slice ax xs.length cx0] [] (ro ++ rx) (fun v L' => ∃ a' cap' H, v = .slice a' (bs ++ les xs).length cap' ∧ L' = [H] ∧ Own 1 5 (u8s (bs ++ les xs)) a' (bs ++ les xs).length cap' H) := by
 have hk0 : Kpt bs a bs.length [] ro := ⟨Nat.le_refl _, ro, hro, fun q hq => .inr hq⟩
 refine Ctr.enter (n := 25) [.tmp 4] [(0, _), (1, _)] Tryz.func139 rfl rfl rfl (lb rfl) Tryz.call139 ⟨rfl, rfl, trivial⟩ ?_
 intro cx fin fin0
 refine aG ?_
 repeat (first | refine gx ?_ | refine gN fun _ => ?_ | refine gB fun _ => ?_ | fail)
 refine aV (fullSl rfl rfl rfl rfl rfl hcap) ?_
 refine W.nilChunk ?_
 refine aLp (fun k ρ1 L1 => ∃ (j : Nat) (cs : List Int) (a1 : Option Addr) (c1 : Nat) (H1 : HL), j ≤ xs.length ∧ k = xs.length - j ∧ cs = bs ++ les (xs.take j) ∧ Kpt cs a1 c1 H1 ro ∧ (1 ≤ j → Own 1 5 (u8s cs) a1 cs.length c1 H1) ∧ ρ1 = [(15, .int .i64 (j : Int)), (14, .int .i64 (xs.length : Int)), (13, .slice ax xs.length cx0), (0, .slice a1 cs.length c1)] ∧ L1 = [H1]) (o := ⟨0, bs, a, bs.length, [], Nat.zero_le _, rfl, by simp [les], hk0, by intro h; omega, rfl, rfl⟩) (h := ?_)
 rintro k ρ1 L1 ⟨j, cs, a1, c1, H1, hj, rfl, hcs, ⟨hc1, r1, hr1, hs1⟩, how, rfl, rfl⟩
 refine aG ?_
 by_cases hlt : j < xs.length
 ·
  have hz : (j : Int) < (xs.length : Int) := by omega
  obtain ⟨bx, ox, lx, ex, frx, rfl, rfl, -, hld⟩ := RoSl.at (f := fun x : Int => [Value.int .i64 x]) (m := 1) (fun _ => rfl) hrx hlt
  have l0 : lx[ox + j * 1]? = some (.int .i64 xs[j]) := hld 0 (by decide)
  have hnx : xs.take (j + 1) = xs.take j ++ [xs[j]] := List.take_succ_eq_append_getElem hlt
  obtain ⟨u, e1, hu, e2⟩ := u64_of (hx _ (List.getElem_mem hlt))
  have hln : cs.length ≤ 1000000 := by rw [hcs, List.length_append, les_len, List.length_take]; omega
  have hU := LUint_spec cs hln a1 c1 hc1 r1 hr1 u hu
  have e3 : cs ++ le8 (u : Int) = bs ++ les (xs.take (j + 1)) := by rw [hcs, hnx, les_append, e2, List.append_assoc]; simp [les]
  generalize cs ++ le8 (u : Int) = cs2 at *
  generalize xs[j] = x at *
  repeat (first | refine gh hz ?_ | refine gN fun _ => ?_ | refine gB fun _ => ?_ | fail)
  refine aV (OpVal.ixSl tab_ok rfl rfl rfl rfl rfl hlt) ?_
  refine aV (OpVal.load tab_ok rfl (.inr (List.mem_append_right _ (List.mem_singleton.2 rfl))) l0) ?_
  repeat (first | refine gx ?_ | refine gN fun _ => ?_ | refine gB fun _ => ?_ | fail)
  refine aV (OpVal.conv tab_ok rfl rfl rfl e1) ?_
  refine aC (o := hU) (h := ?_) (hro := (fun q hq => (hs1 q hq).elim (fun h => .inl (by simp [h])) (fun h => .inr (List.mem_append_left _ h))))
  rintro _ _ ⟨a2, c2, H2, rfl, rfl, ho⟩
  refine aG ?_
  repeat (first | refine gh hz ?_ | refine gN fun _ => ?_ | refine gB fun _ => ?_ | fail)
  refine W.order [0] rfl ?_
  refine aR (o := ⟨xs.length - (j + 1), by omega, j + 1, cs2, _, _, _, hlt, rfl, e3, Kpt.own ho, (by intro _; exact ho), rfl, rfl⟩)
 ·
  obtain rfl : j = xs.length := by omega
  rw [List.take_length] at hcs
  have ho := how h1
  subst hcs
  repeat (first | refine gx ?_ | refine gN fun _ => ?_ | refine gB fun _ => ?_ | fail)
  refine W.ret (fin _ _ (FinOk.first 1 (.tmp rfl .nil) rfl ?_))
  exact ⟨_, _, _, rfl, rfl, ho⟩
theorem SNewS_spec (n : Nat) (h1 : 1 ≤ n) (h2 : n ≤ 16) : Ctr Tryz.prog 87 [.int .i64 (n : Int)] [] [] (fun v L' => ∃ b, v = .tuple #[.pointer (some ⟨b, 0, none⟩), .int .i64 0] ∧ L' = [[(b, .cells #[.int .i64 (n : Int)] 238 (0, 0))]]) := by
 have k1 : ¬ (n : Int) < 1 := by omega
 have k2 : ¬ (n : Int) > 16 := by omega
 refine Ctr.enter (n := 13) [.tmp 2, .tmp 3] [(0, _)] Tryz.func87 rfl rfl rfl (lb rfl) Tryz.call87 ⟨rfl, trivial⟩ ?_
 intro cx fin fin0
 refine aG ?_
 repeat (first | refine gh (gc2 k1 k2) ?_ | refine gN fun _ => ?_ | refine gB fun _ => ?_ | fail)
 refine aBu (ps := [_]) ?_
 repeat (first | refine gx ?_ | refine gN fun _ => ?_ | refine gB fun _ => ?_ | fail)
 refine W.ret (fin _ _ (FinOk.first 1 (.tmp rfl (.tmp rfl .nil)) rfl ?_))
 exact ⟨_, rfl, rfl⟩
def supV (e : Int) (c : Cf) (a : Option Addr) (n : Nat) : Value := .agg #[.int .i64 e, .int .i64 c.fr, .int .i64 c.dp, .int .i64 c.se, .slice a c.ps.length n]
def SupOk (e : Int) (c : Cf) : Prop := (1 ≤ e ∧ e ≤ 1073741824) ∧ c.Ok
theorem SupMay_spec (e : Int) (c : Cf) (hps : c.ps.length ≤ 9223372036854775807) (a : Option Addr) (cap : Nat) (hcap : c.ps.length ≤ cap) (ro : HL) (hro : RoSl 3 (cps c.ps) a c.ps.length ro) :
  Ctr Tryz.prog 138 [supV e c a cap] [] ro (fun v L' => ∃ b, v = .bool b ∧ L' = [] ∧ (b = true ↔ SupOk e c)) := by
 have hC := CMay_spec c hps a cap hcap ro hro
 unfold SupOk
 obtain ⟨fr, dp, se, ps⟩ := c
 simp only [Cf.v, supV] at *
 refine Ctr.enter (n := 16) [.tmp 2] [(0, _)] Tryz.func138 rfl rfl rfl (lb rfl) Tryz.call138 ⟨rfl, trivial⟩ ?_
 intro cx fin fin0
 refine aG ?_
 repeat (first | refine gx ?_ | refine gN fun _ => ?_ | refine gB fun _ => ?_ | fail)
 by_cases k1 : 1 ≤ e
 ·
  by_cases k2 : e ≤ 1073741824
  ·
   repeat (first | refine gh (gc2 k1 k2) ?_ | refine gN fun _ => ?_ | refine gB fun _ => ?_ | fail)
   refine aC (o := hC) (h := ?_)
   rintro _ _ ⟨b, rfl, rfl, hb⟩
   refine aG ?_
   repeat (first | refine gh (gc2 k1 k2) ?_ | refine gN fun _ => ?_ | refine gB fun _ => ?_ | fail)
   refine W.order [] rfl ?_
   refine W.ret (fin _ _ (FinOk.first 0 (.tmp rfl .nil) rfl ?_))
   exact ⟨_, rfl, rfl, hb.trans ⟨fun h => ⟨⟨k1, k2⟩, h⟩, fun h => h.2⟩⟩
  ·
   repeat (first | refine gh (gc2 k1 k2) ?_ | refine gN fun _ => ?_ | refine gB fun _ => ?_ | fail)
   refine W.order [] rfl ?_
   refine W.ret (fin _ _ (FinOk.first 0 (.tmp rfl .nil) rfl ?_))
   exact ⟨_, rfl, rfl, ⟨fun h => by simp at h, fun h => absurd h.1.2 k2⟩⟩
 ·
  repeat (first | refine gh k1 ?_ | refine gN fun _ => ?_ | refine gB fun _ => ?_ | fail)
  refine W.order [] rfl ?_
  refine W.ret (fin _ _ (FinOk.first 0 (.tmp rfl .nil) rfl ?_))
  exact ⟨_, rfl, rfl, ⟨fun h => by simp at h, fun h => absurd h.1.1 k1⟩⟩
def supPs (l : List Cp) : List Int := l.flatMap fun x => les [x.q, x.b, x.p]
def supBody (e : Int) (c : Cf) : List Int := les [1, e, c.fr, c.dp, c.se, c.ps.length] ++ supPs c.ps
def supB (e : Int) (c : Cf) : List Int := sealB (supBody e c)
theorem supPs_len (l : List Cp) : (supPs l).length = 24 * l.length := by
 induction l with
 | nil => rfl
 | cons x l ih =>
  unfold supPs at ih ⊢
  rw [List.flatMap_cons, List.length_append, ih, les_len, List.length_cons]
  simp
  omega
theorem supBody_len (e : Int) (c : Cf) : (supBody e c).length = 48 + 24 * c.ps.length := by
 unfold supBody
 rw [List.length_append, supPs_len, les_len]
 rfl
theorem supBody_ok (e : Int) (c : Cf) : u8ok (supBody e c) := fun x hx => by
 rcases List.mem_append.1 hx with h | h
 · exact les_ok _ x h
 ·
  obtain ⟨y, -, hy⟩ := List.mem_flatMap.1 h
  exact les_ok _ x hy
theorem supPs_succ {l : List Cp} {j : Nat} (h : j < l.length) : supPs (l.take (j + 1)) = supPs (l.take j) ++ les [l[j].q, l[j].b, l[j].p] := by
 unfold supPs
 rw [List.take_succ_eq_append_getElem h, List.flatMap_append]
 simp only [List.flatMap_cons, List.flatMap_nil, List.append_nil]
theorem SupWrite_spec (e : Int) (he : i64s e) (c : Cf) (hin : c.In) (hps : c.ps.length ≤ 9223372036854775807) (a : Option Addr) (cap : Nat) (hcap : c.ps.length ≤ cap) (ro : HL) (hro : RoSl 3 (cps c.ps) a c.ps.length ro) :
  Ctr Tryz.prog 83 [supV e c a cap] [] ro (fun v L' => (¬ SupOk e c ∧ v = .tuple #[.slice none 0 0, .int .i64 3] ∧ L' = []) ∨
   (SupOk e c ∧ ∃ a' cap' H, v = .tuple #[.slice a' (supB e c).length cap', .int .i64 0] ∧ L' = [H] ∧ Own 1 5 (u8s (supB e c)) a' (supB e c).length cap' H)) := by
 have hM := SupMay_spec e c hps a cap hcap ro hro
 have hI1 := fun bt (h16 : c.ps.length ≤ 16) => LInts_spec [] (by decide) none 0 (by decide) [] ⟨rfl, .inl ⟨rfl, rfl⟩⟩ [1, e, c.fr, c.dp, c.se, c.ps.length] (by simp) (by simp) (by
  intro x hx
  simp only [List.mem_cons, List.not_mem_nil, or_false] at hx
  rcases hx with rfl | rfl | rfl | rfl | rfl | rfl
  · exact ⟨by decide, by decide⟩
  · exact he
  · exact hin.fr
  · exact hin.dp
  · exact hin.se
  · exact ⟨by omega, by omega⟩) (some ⟨bt, 0, none⟩) 6 [(bt, .cells #[.int .i64 1, .int .i64 e, .int .i64 c.fr, .int .i64 c.dp, .int .i64 c.se, .int .i64 (c.ps.length : Int)] 3 (0, 0))] ⟨rfl, .inr ⟨bt, 0, _, _, _, rfl, rfl, Nat.le_refl _, rfl⟩⟩
 have hP := fun a' cap' r' hr' => Put_spec (supBody e c) (supBody_ok e c) a' cap' r' hr'
 have hbl := supBody_len e c
 have hbd : supBody e c = les [1, e, c.fr, c.dp, c.se, c.ps.length] ++ supPs c.ps := rfl
 unfold supB
 generalize supBody e c = body at *
 have h16 : SupOk e c → c.ps.length ≤ 16 := fun h => h.2.len.2
 generalize SupOk e c = okP at *
 obtain ⟨fr, dp, se, ps⟩ := c
 simp only [supV, List.nil_append] at *
 refine Ctr.enter (n := 47) [.tmp 2, .tmp 3] [(0, _)] Tryz.func83 rfl rfl rfl (lb rfl) Tryz.call83 ⟨rfl, trivial⟩ ?_
 intro cx fin fin0
 refine aG ?_
 repeat (first | refine gx ?_ | refine gN fun _ => ?_ | refine gB fun _ => ?_ | fail)
 rename_i b1
 refine aC (o := hM) (h := ?_)
 rintro _ _ ⟨b, rfl, rfl, hb⟩
 refine aG ?_
 cases b with
 | false =>
  repeat (first | refine gx ?_ | refine gN fun _ => ?_ | refine gB fun _ => ?_ | fail)
  refine W.order [] rfl ?_
  refine W.ret (fin _ _ (FinOk.first 0 (.tmp rfl (.tmp rfl .nil)) rfl ?_))
  exact .inl ⟨fun h => by simpa using hb.2 h, rfl, rfl⟩
 | true =>
  have hok := hb.1 rfl
  have hl16 := h16 hok
  repeat (first | refine gx ?_ | refine gN fun _ => ?_ | refine gB fun _ => ?_ | fail)
  refine aSl (ps := [_, _, _, _, _, _]) ?_
  intro bt
  refine aG ?_
  refine aC (o := hI1 bt hl16) (h := ?_) (hro := RoIn.append RoIn.nil (RoIn.own 0 rfl))
  rintro _ _ ⟨a1, c1, H1, rfl, rfl, ho1⟩
  refine aG ?_
  repeat (first | refine gx ?_ | refine gN fun _ => ?_ | refine gB fun _ => ?_ | fail)
  refine aLp (fun k ρ1 L1 => ∃ (j : Nat) (cs : List Int) (a1 : Option Addr) (c1 : Nat) (H1 : HL), j ≤ ps.length ∧ k = ps.length - j ∧ cs = les [1, e, fr, dp, se, ps.length] ++ supPs (ps.take j) ∧ Own 1 5 (u8s cs) a1 cs.length c1 H1 ∧ ρ1 = [(31, .int .i64 (j : Int)), (30, .int .i64 (ps.length : Int)), (29, .slice a ps.length cap), (4, .slice a1 cs.length c1)] ∧ L1 = [H1]) (o := ⟨0, les [1, e, fr, dp, se, ps.length], a1, c1, H1, Nat.zero_le _, rfl, by simp [supPs], ho1, rfl, rfl⟩) (h := ?_)
  rintro k ρ1 L1 ⟨j, cs, a1, c1, H1, hj, rfl, hcs, ho, rfl, rfl⟩
  refine aG ?_
  by_cases hlt : j < ps.length
  ·
   have hz : (j : Int) < (ps.length : Int) := by omega
   obtain ⟨bx, ox, lx, ex, frx, rfl, rfl, hld⟩ := cps_at hro hlt
   have hxin := hin.ps _ (List.getElem_mem hlt)
   have hcl : cs.length = 48 + 24 * j := by rw [hcs, List.length_append, supPs_len, les_len, List.length_take]; simp; omega
   have hnx : cs ++ les [ps[j].q, ps[j].b, ps[j].p] = les [1, e, fr, dp, se, ps.length] ++ supPs (ps.take (j + 1)) := by rw [hcs, supPs_succ hlt, List.append_assoc]
   have hI2 := fun bt => LInts_spec cs (by omega) a1 c1 (Kpt.own (ro := []) ho).1 H1 (Own.roSl ho) [ps[j].q, ps[j].b, ps[j].p] (by simp) (by simp) (by
    intro x hx
    simp only [List.mem_cons, List.not_mem_nil, or_false] at hx
    rcases hx with rfl | rfl | rfl
    · exact hxin.1
    · exact hxin.2.1
    · exact hxin.2.2) (some ⟨bt, 0, none⟩) 3 [(bt, .cells #[.int .i64 ps[j].q, .int .i64 ps[j].b, .int .i64 ps[j].p] 3 (0, 0))] ⟨rfl, .inr ⟨bt, 0, _, _, _, rfl, rfl, Nat.le_refl _, rfl⟩⟩
   generalize cs ++ les [ps[j].q, ps[j].b, ps[j].p] = cs2 at *
   generalize ps[j] = x at *
   repeat (first | refine gh hz ?_ | refine gN fun _ => ?_ | refine gB fun _ => ?_ | fail)
   refine aV (OpVal.ixSl tab_ok rfl rfl rfl rfl rfl hlt) ?_
   refine aV (OpVal.load tab_ok rfl (at_ro 0 rfl) hld) ?_
   repeat (first | refine gx ?_ | refine gN fun _ => ?_ | refine gB fun _ => ?_ | fail)
   refine aSl (ps := [_, _, _]) ?_
   intro bt
   refine aG ?_
   refine aC (o := hI2 bt) (h := ?_) (hro := RoIn.append (RoIn.own 2 rfl) (RoIn.own 0 rfl))
   rintro _ _ ⟨a2, c2, H2, rfl, rfl, ho2⟩
   refine aG ?_
   repeat (first | refine gh hz ?_ | refine gN fun _ => ?_ | refine gB fun _ => ?_ | fail)
   refine W.order [0] rfl ?_
   refine aR (o := ⟨ps.length - (j + 1), by omega, j + 1, _, _, _, _, hlt, rfl, hnx, ho2, rfl, rfl⟩)
  ·
   obtain rfl : j = ps.length := by omega
   rw [List.take_length, ← hbd] at hcs
   subst hcs
   repeat (first | refine gx ?_ | refine gN fun _ => ?_ | refine gB fun _ => ?_ | fail)
   refine aC (o := hP a1 c1 H1 (Own.roSl ho) (by omega)) (h := ?_) (hro := RoIn.own 0 rfl)
   rintro _ _ ⟨a2, c2, H2, rfl, rfl, ho2⟩
   refine aG ?_
   repeat (first | refine gx ?_ | refine gN fun _ => ?_ | refine gB fun _ => ?_ | fail)
   refine W.order [0] rfl ?_
   refine W.ret (fin _ _ (FinOk.first 1 (.tmp rfl (.tmp rfl .nil)) rfl ?_))
   exact .inr ⟨hok, _, _, _, rfl, rfl, ho2⟩
end Go.Proofs.YtfpghdcjdnifcaaGreat
namespace Go.Proofs.YtfpghdcjdnifcaaGreat
open Go Go.Sl Go.IntWalk
set_option maxHeartbeats 8000000
set_option maxRecDepth 20000
set_option linter.unusedVariables false
theorem OpVal.shlN {n : Nat} {R : HL} {cx : Cx} {ρ : Env} {L : List HL} {t t' ty : TypeId} {x y : Operand} {kk k2 : IntKind} {i j r : Int} {c : Nat} (hx : ev? ρ x = some (.int kk i)) (hy : ev? ρ y = some (.int k2 j)) (hj : j = c) (hc : c ≤ kk.bits) (hr : kk.wrap (i * 2 ^ c) = r) :
  OpVal Tryz.prog n R cx (.binOp .shl t x y t') ty ρ L (.int kk r) := by
 refine ⟨fun oo ac w hoo hty hf hs => ?_⟩
 subst hj hr
 have hm : min c kk.bits = c := Nat.min_eq_left hc
 have hn : ¬ ((c : Int) < 0) := by omega
 unfold execOp; rw [hoo]
 simp only [hf.ev hx, hf.ev hy, eqGuard, binOp, Op.shift, if_neg hn, Int.toNat_natCast, hm]
 rfl
def RdAt (r : Rd) (b : Nat) (D H : HL) : Prop := ∃ (a : Option Addr) (c : Nat) (rr : HL), H = [(b, Obj.cells (List.toArray [.slice a r.b.length c, .bool r.bad]) 364 (0, 0))] ∧ r.b.length ≤ c ∧ RoSl 1 (u8s r.b) a r.b.length rr ∧ ∀ q ∈ rr, q ∈ D
def OutIn (bs : List Int) (v : Value) (D : HL) : Prop := ∃ (a : Option Addr) (c : Nat) (rr : HL), v = .slice a bs.length c ∧ bs.length ≤ c ∧ RoSl 1 (u8s bs) a bs.length rr ∧ ∀ q ∈ rr, q ∈ D
theorem OutIn.nil (D : HL) : OutIn [] (.slice none 0 0) D := ⟨none, 0, [], rfl, Nat.le_refl _, ⟨rfl, .inl ⟨rfl, rfl⟩⟩, fun _ h => (by cases h)⟩
theorem Rtake_spec (r : Rd) (hl : r.b.length ≤ 1000000) (b : Nat) (D H : HL) (h : RdAt r b D H) (n : Int) (h0 : 0 ≤ n) :
  Ctr Tryz.prog 246 [.pointer (some ⟨b, 0, none⟩), .int .u64 n] [H] D (fun v L' => ∃ H', L' = [H'] ∧ OutIn (r.take n).1 v D ∧ RdAt (r.take n).2 b D H') := by
 obtain ⟨a, c, rr, rfl, hc, hr, hsub⟩ := h
 obtain ⟨bs, bad⟩ := r
 simp only at *
 have hw : IntKind.u64.wrap (bs.length : Int) = (bs.length : Int) := by rw [IntKind.wrap_u64]; omega
 unfold Rd.take
 simp only
 have hbad : ∀ L' v, (v = .slice none 0 0 ∧ ∃ H', L' = [H'] ∧ H' = [(b, Obj.cells (List.toArray [.slice none 0 0, .bool true]) 364 (0, 0))]) → ∃ H', L' = [H'] ∧ OutIn [] v D ∧ RdAt ⟨[], true⟩ b D H' := by
  rintro L' v ⟨rfl, H', rfl, rfl⟩
  exact ⟨_, rfl, OutIn.nil D, none, 0, [], rfl, Nat.le_refl _, ⟨rfl, .inl ⟨rfl, rfl⟩⟩, fun _ h => (by cases h)⟩
 cases bad with
 | true =>
  rw [if_pos (.inl rfl)]
  refine Ctr.enter (n := 43) [.tmp 4] [(0, _), (1, _)] Tryz.func246 rfl rfl rfl (lb rfl) Tryz.call246 ⟨rfl, rfl, trivial⟩ ?_
  intro cx fin fin0
  refine aG ?_
  repeat (first | refine gx ?_ | refine gN fun _ => ?_ | refine gB fun _ => ?_ | fail)
  refine W.ret (fin _ _ (FinOk.first 1 (.tmp rfl .nil) rfl ?_))
  exact hbad _ _ ⟨rfl, _, rfl, rfl⟩
 | false =>
  rcases Classical.em ((bs.length : Int) < n) with hlt | hlt
  ·
   rw [if_pos (.inr hlt)]
   have hgt : n > (bs.length : Int) := hlt
   refine Ctr.enter (n := 43) [.tmp 4] [(0, _), (1, _)] Tryz.func246 rfl rfl rfl (lb rfl) Tryz.call246 ⟨rfl, rfl, trivial⟩ ?_
   intro cx fin fin0
   refine aG ?_
   repeat (first | refine gx ?_ | refine gN fun _ => ?_ | refine gB fun _ => ?_ | fail)
   refine aV (OpVal.conv tab_ok rfl rfl rfl hw) ?_
   repeat (first | refine gh hgt ?_ | refine gN fun _ => ?_ | refine gB fun _ => ?_ | fail)
   refine W.ret (fin _ _ (FinOk.first 1 (.tmp rfl .nil) rfl ?_))
   exact hbad _ _ ⟨rfl, _, rfl, rfl⟩
  ·
   rw [if_neg (by simp [hlt])]
   have hgt : ¬ n > (bs.length : Int) := hlt
   obtain ⟨k, rfl⟩ : ∃ k : Nat, n = (k : Int) := ⟨n.toNat, by omega⟩
   have hk : k ≤ bs.length := by omega
   refine Ctr.enter (n := 43) [.tmp 4] [(0, _), (1, _)] Tryz.func246 rfl rfl rfl (lb rfl) Tryz.call246 ⟨rfl, rfl, trivial⟩ ?_
   intro cx fin fin0
   refine aG ?_
   repeat (first | refine gx ?_ | refine gN fun _ => ?_ | refine gB fun _ => ?_ | fail)
   refine aV (OpVal.conv tab_ok rfl rfl rfl hw) ?_
   repeat (first | refine gh hgt ?_ | refine gN fun _ => ?_ | refine gB fun _ => ?_ | fail)
   refine aV (fullSl rfl rfl rfl rfl rfl (show k ≤ c by omega)) ?_
   repeat (first | refine gx ?_ | refine gN fun _ => ?_ | refine gB fun _ => ?_ | fail)
   refine aV (OpVal.back (l := k) tab_ok rfl rfl rfl rfl rfl hk hc) ?_
   repeat (first | refine gx ?_ | refine gN fun _ => ?_ | refine gB fun _ => ?_ | fail)
   refine W.ret (fin _ _ (FinOk.first 1 (.tmp rfl .nil) rfl ?_))
   rw [Int.toNat_natCast]
   have hlt1 : (bs.take k).length = k := by rw [List.length_take]; omega
   have hld : (bs.drop k).length = bs.length - k := List.length_drop
   refine ⟨_, rfl, ⟨a, k, rr, by rw [hlt1]; rfl, Nat.le_of_eq hlt1, by rw [hlt1]; exact RoSl.take (f := fun x => [Value.int .u8 x]) (fun _ => rfl) hr k hk, hsub⟩, ⟨_, c - k, rr, by rw [hld], by rw [hld]; omega, ?_, hsub⟩⟩
   rcases RoSl.drop (f := fun x => [Value.int .u8 x]) (m := 1) (cap := c) (fun _ => rfl) hr k hk with h | h
   · rw [hld]; exact h
   · omega
theorem take8_len (r : Rd) : (r.take 8).1.length = 0 ∨ (r.take 8).1.length = 8 := by
 unfold Rd.take
 split
 · exact .inl rfl
 ·
  rename_i h
  right
  simp only [List.length_take]
  have : ¬ (r.b.length : Int) < 8 := fun h2 => h (.inr h2)
  omega
theorem take_ok {r : Rd} (h : u8ok r.b) (n : Int) : u8ok (r.take n).1 ∧ u8ok (r.take n).2.b ∧ (r.take n).2.b.length ≤ r.b.length := by
 unfold Rd.take
 split
 · exact ⟨(by intro x hx; cases hx), (by intro x hx; cases hx), Nat.zero_le _⟩
 · exact ⟨fun x hx => h x (List.mem_of_mem_take hx), fun x hx => h x (List.mem_of_mem_drop hx), by simp only [List.length_drop]; omega⟩
theorem un8_snoc : ∀ (l : List Int) (c : Int), un8 (l ++ [c]) = un8 l + 256 ^ l.length * c
 | [], c => by simp [un8]
 | x :: l, c => by
  rw [List.cons_append, un8, un8, un8_snoc l c, List.length_cons, Int.pow_succ, Int.mul_add]
  rw [Int.mul_comm (256 ^ l.length) 256, Int.mul_assoc]
  omega
theorem or_high {x c j : Nat} (hx : x < 256 ^ j) : x ||| (c * 2 ^ (8 * j)) = x + c * 256 ^ j := by
 have e : (2 : Nat) ^ (8 * j) = 256 ^ j := by rw [Nat.pow_mul]
 have := Nat.two_pow_add_eq_or_of_lt (i := 8 * j) (b := x) (by rw [e]; exact hx) c
 rw [Nat.or_comm, Nat.mul_comm c, ← this, e]
 rw [Nat.mul_comm c]; omega
theorem RUint_spec (r : Rd) (hu : u8ok r.b) (hl : r.b.length ≤ 1000000) (b : Nat) (D H : HL) (h : RdAt r b D H) :
  Ctr Tryz.prog 245 [.pointer (some ⟨b, 0, none⟩)] [H] D (fun v L' => ∃ H', v = .int .u64 r.uint.1 ∧ L' = [H'] ∧ RdAt r.uint.2 b D H') := by
 have hT := Rtake_spec r hl b D H h 8 (by decide)
 have h8 := take8_len r
 have ho := (take_ok hu 8).1
 unfold Rd.uint
 generalize r.take 8 = out at *
 obtain ⟨os, r2⟩ := out
 simp only at *
 refine Ctr.enter (n := 23) [.tmp 2] [(0, _)] Tryz.func245 rfl rfl rfl (lb rfl) Tryz.call245 ⟨rfl, trivial⟩ ?_
 intro cx fin fin0
 refine aG ?_
 repeat (first | refine gx ?_ | refine gN fun _ => ?_ | refine gB fun _ => ?_ | fail)
 refine aC (o := hT) (h := ?_) (hro := RoIn.same)
 rintro _ _ ⟨H2, rfl, ⟨a, c, rr, rfl, hc, hr, hsub⟩, h2⟩
 refine aG ?_
 repeat (first | refine gx ?_ | refine gN fun _ => ?_ | refine gB fun _ => ?_ | fail)
 refine aLp (fun k ρ1 L1 => ∃ (j x : Nat), j ≤ os.length ∧ k = os.length - j ∧ (x : Int) = un8 (os.take j) ∧ x < 256 ^ j ∧ ρ1 = [(9, .int .i64 (j : Int)), (8, .int .i64 (os.length : Int)), (7, .slice a os.length c), (3, .int .u64 (x : Int))] ∧ L1 = [H2]) (o := ⟨0, 0, Nat.zero_le _, rfl, rfl, by decide, rfl, rfl⟩) (h := ?_)
 rintro k ρ1 L1 ⟨j, x, hj, rfl, hx, hxb, rfl, rfl⟩
 refine aG ?_
 by_cases hlt : j < os.length
 ·
  have hz : (j : Int) < (os.length : Int) := by omega
  obtain ⟨bx, ox, lx, ex, frx, rfl, rfl, -, hld⟩ := RoSl.at (f := fun x : Int => [Value.int .u8 x]) (m := 1) (fun _ => rfl) hr hlt
  have l0 : lx[ox + j * 1]? = some (.int .u8 os[j]) := hld 0 (by decide)
  have hnx : os.take (j + 1) = os.take j ++ [os[j]] := List.take_succ_eq_append_getElem hlt
  have hcx := ho _ (List.getElem_mem hlt)
  have hj8 : j < 8 := by omega
  obtain ⟨y, hy⟩ : ∃ y : Nat, os[j] = (y : Int) := ⟨os[j].toNat, by omega⟩
  rw [hy] at hcx l0 hnx
  have hp : (256 : Nat) ^ j * 256 ≤ 18446744073709551616 := by
   rw [← Nat.pow_succ]
   exact Nat.le_trans (Nat.pow_le_pow_right (by decide) (show j + 1 ≤ 8 by omega)) (by decide)
  have hyb : y * 256 ^ j ≤ 255 * 256 ^ j := Nat.mul_le_mul_right _ (by omega)
  have hun : ((x + y * 256 ^ j : Nat) : Int) = un8 (os.take (j + 1)) := by
   rw [hnx, un8_snoc, ← hx, List.length_take, Nat.min_eq_left (by omega)]
   push_cast
   rw [Int.mul_comm]
  have hpw : (256 : Nat) ^ (j + 1) = 256 ^ j * 256 := Nat.pow_succ 256 j
  have e1 : IntKind.u64.wrap ((y : Int) * 2 ^ (8 * j)) = ((y * 2 ^ (8 * j) : Nat) : Int) := by
   have e : (2 : Nat) ^ (8 * j) = 256 ^ j := by rw [Nat.pow_mul]
   have e2 : (y : Int) * 2 ^ (8 * j) = ((y * 256 ^ j : Nat) : Int) := by rw [← e]; push_cast; rfl
   rw [e2, e, IntKind.wrap_u64]
   omega
  have e4 : (2 : Nat) ^ (8 * j) = 256 ^ j := by rw [Nat.pow_mul]
  have hor := or_high (c := y) hxb
  repeat (first | refine gh hz ?_ | refine gN fun _ => ?_ | refine gB fun _ => ?_ | fail)
  refine aV (OpVal.ixSl tab_ok rfl rfl rfl rfl rfl hlt) ?_
  refine aV (OpVal.load tab_ok rfl (.inr (hsub _ (List.mem_singleton.2 rfl))) l0) ?_
  repeat (first | refine gx ?_ | refine gN fun _ => ?_ | refine gB fun _ => ?_ | fail)
  refine aV (OpVal.conv tab_ok rfl rfl rfl (show IntKind.u64.wrap (y : Int) = (y : Int) by rw [IntKind.wrap_u64]; omega)) ?_
  refine aV (OpVal.mul (r := ((8 * j : Nat) : Int)) rfl rfl (by rw [i64_in _ (by omega)]; omega)) ?_
  refine aV (OpVal.shlN (c := 8 * j) rfl rfl rfl (by show 8 * j ≤ 64; omega) e1) ?_
  refine aV (OpVal.bitsN (a := x) (b := y * 2 ^ (8 * j)) (r := x ||| (y * 2 ^ (8 * j))) rfl rfl rfl rfl (by show x < 2 ^ 64; omega) (by show y * 2 ^ (8 * j) < 2 ^ 64; rw [e4]; omega) (by rw [hor, IntKind.wrap_u64]; omega) (.inr (.inr ⟨rfl, rfl⟩))) ?_
  rw [hor]
  repeat (first | refine gh hz ?_ | refine gN fun _ => ?_ | refine gB fun _ => ?_ | fail)
  refine aR (o := ⟨os.length - (j + 1), by omega, j + 1, x + y * 256 ^ j, hlt, rfl, hun, by rw [hpw]; omega, rfl, rfl⟩)
 ·
  obtain rfl : j = os.length := by omega
  rw [List.take_length] at hx
  repeat (first | refine gx ?_ | refine gN fun _ => ?_ | refine gB fun _ => ?_ | fail)
  refine W.ret (fin _ _ (FinOk.first 1 (.tmp rfl .nil) rfl ?_))
  exact ⟨_, by rw [← hx]; rfl, rfl, h2⟩
theorem uint_range {r : Rd} (hu : u8ok r.b) : 0 ≤ r.uint.1 ∧ r.uint.1 < 18446744073709551616 := by
 have h1 := un8_range (take_ok hu 8).1
 unfold Rd.uint
 rcases take8_len r with h | h <;> rw [h] at h1 <;> simp at h1 ⊢ <;> omega
theorem RInt_spec (r : Rd) (hu : u8ok r.b) (hl : r.b.length ≤ 1000000) (b : Nat) (D H : HL) (h : RdAt r b D H) :
  Ctr Tryz.prog 203 [.pointer (some ⟨b, 0, none⟩)] [H] D (fun v L' => ∃ H', v = .int .i64 r.int.1 ∧ L' = [H'] ∧ RdAt r.int.2 b D H') := by
 have hU := RUint_spec r hu hl b D H h
 have hr := uint_range hu
 have e : r.int = (s64 r.uint.1, r.uint.2) := rfl
 rw [e]
 have e1 : IntKind.i64.wrap r.uint.1 = s64 r.uint.1 := by unfold s64; rw [IntKind.wrap_i64]; split <;> omega
 generalize r.uint = u at *
 refine Ctr.enter (n := 6) [.tmp 2] [(0, _)] Tryz.func203 rfl rfl rfl (lb rfl) Tryz.call203 ⟨rfl, trivial⟩ ?_
 intro cx fin fin0
 refine aG ?_
 repeat (first | refine gx ?_ | refine gN fun _ => ?_ | refine gB fun _ => ?_ | fail)
 refine aC (o := hU) (h := ?_) (hro := RoIn.same)
 rintro _ _ ⟨H2, rfl, rfl, h2⟩
 refine aG ?_
 repeat (first | refine gx ?_ | refine gN fun _ => ?_ | refine gB fun _ => ?_ | fail)
 refine aV (OpVal.conv tab_ok rfl rfl rfl e1) ?_
 refine W.ret (fin _ _ (FinOk.first 1 (.tmp rfl .nil) rfl ?_))
 exact ⟨_, rfl, rfl, h2⟩
theorem RErr_spec (r : Rd) (b : Nat) (D H : HL) (h : RdAt r b D H) : Ctr Tryz.prog 247 [.pointer (some ⟨b, 0, none⟩)] [] H (fun v L' => v = .int .i64 (if r.bad = true then 2 else 0) ∧ L' = []) := by
 obtain ⟨a, c, rr, rfl, hc, hr, hsub⟩ := h
 obtain ⟨bs, bad⟩ := r
 cases bad with
 | true =>
  refine Ctr.enter (n := 7) [.tmp 2] [(0, _)] Tryz.func247 rfl rfl rfl (lb rfl) Tryz.call247 ⟨rfl, trivial⟩ ?_
  intro cx fin fin0
  refine aG ?_
  repeat (first | refine gx ?_ | refine gN fun _ => ?_ | refine gB fun _ => ?_ | fail)
  refine W.ret (fin _ _ (FinOk.first 0 (.tmp rfl .nil) rfl ?_))
  exact ⟨rfl, rfl⟩
 | false =>
  refine Ctr.enter (n := 7) [.tmp 2] [(0, _)] Tryz.func247 rfl rfl rfl (lb rfl) Tryz.call247 ⟨rfl, trivial⟩ ?_
  intro cx fin fin0
  refine aG ?_
  repeat (first | refine gx ?_ | refine gN fun _ => ?_ | refine gB fun _ => ?_ | fail)
  refine W.ret (fin _ _ (FinOk.first 0 (.tmp rfl .nil) rfl ?_))
  exact ⟨rfl, rfl⟩
theorem REnd_spec (r : Rd) (b : Nat) (D H : HL) (h : RdAt r b D H) : Ctr Tryz.prog 205 [.pointer (some ⟨b, 0, none⟩)] [] H (fun v L' => v = .int .i64 r.end_ ∧ L' = []) := by
 have hE := RErr_spec r b D H h
 obtain ⟨a, c, rr, rfl, hc, hr, hsub⟩ := h
 obtain ⟨bs, bad⟩ := r
 simp only at *
 unfold Rd.end_
 simp only
 rcases Classical.em ((bs.length : Int) > 0) with h0 | h0
 ·
  rw [if_pos (.inl (by omega))]
  refine Ctr.enter (n := 11) [.tmp 2] [(0, _)] Tryz.func205 rfl rfl rfl (lb rfl) Tryz.call205 ⟨rfl, trivial⟩ ?_
  intro cx fin fin0
  refine aG ?_
  repeat (first | refine gh h0 ?_ | refine gN fun _ => ?_ | refine gB fun _ => ?_ | fail)
  refine W.ret (fin _ _ (FinOk.first 0 (.tmp rfl .nil) rfl ?_))
  exact ⟨rfl, rfl⟩
 ·
  have e : (if 0 < bs.length ∨ bad = true then (2 : Int) else 0) = if bad = true then 2 else 0 := by
   have : ¬ 0 < bs.length := by omega
   simp [this]
  rw [e]
  refine Ctr.enter (n := 11) [.tmp 2] [(0, _)] Tryz.func205 rfl rfl rfl (lb rfl) Tryz.call205 ⟨rfl, trivial⟩ ?_
  intro cx fin fin0
  refine aG ?_
  repeat (first | refine gh h0 ?_ | refine gN fun _ => ?_ | refine gB fun _ => ?_ | fail)
  refine aC (o := hE) (h := ?_) (hro := RoIn.same)
  rintro _ _ ⟨rfl, rfl⟩
  refine aG ?_
  repeat (first | refine gx ?_ | refine gN fun _ => ?_ | refine gB fun _ => ?_ | fail)
  refine W.ret (fin _ _ (FinOk.first 0 (.tmp rfl .nil) rfl ?_))
  exact ⟨rfl, rfl⟩
theorem LRead_spec (bs : List Int) (hl : bs.length ≤ 1000000) (a : Option Addr) (cap : Nat) (ro : HL) (hro : RoSl 1 (u8s bs) a bs.length ro) :
  Ctr Tryz.prog 202 [.slice a bs.length cap] [] ro (fun v L' => ∃ b H D, v = .pointer (some ⟨b, 0, none⟩) ∧ L' = [H, D] ∧ RdAt ⟨bs, false⟩ b D H) := by
 refine Ctr.enter (n := 7) [.tmp 2] [(0, _)] Tryz.func202 rfl rfl rfl (lb rfl) Tryz.call202 ⟨rfl, trivial⟩ ?_
 intro cx fin fin0
 refine aG ?_
 refine W.nilChunk ?_
 refine aPr (appU8 (xs := []) tab_ok rfl rfl rfl (Own.nil 1 _) (by intro p hp; cases hp) rfl hro (fun q hq => .inr hq) (by simp; omega) (by simp; omega)) ?_
 rintro _ _ ⟨a2, c2, D, rfl, rfl, ho⟩
 refine aG ?_
 rw [List.nil_append] at ho
 refine aBu (ps := [_]) ?_
 repeat (first | refine gx ?_ | refine gN fun _ => ?_ | refine gB fun _ => ?_ | fail)
 refine W.ret (fin _ _ (FinOk.first 2 (.tmp rfl .nil) rfl ?_))
 exact ⟨_, _, _, rfl, rfl, a2, c2, D, rfl, (Kpt.own (ro := []) ho).1, Own.roSl ho, fun q hq => hq⟩
end Go.Proofs.YtfpghdcjdnifcaaGreat
namespace Go.Proofs.YtfpghdcjdnifcaaGreat
open Go Go.Sl Go.IntWalk
set_option maxHeartbeats 8000000
set_option maxRecDepth 20000
set_option linter.unusedVariables false
def css (s : List Cs) : List Value := s.flatMap Cs.l
def TbAt (t : Tb) (b : Nat) (H : HL) : Prop := H = [(b, Obj.cells (List.toArray (.int .i64 t.e :: .int .i64 t.n :: css t.s)) 217 (0, 0))] ∧ t.Inv
end Go.Proofs.YtfpghdcjdnifcaaGreat
namespace Go.Proofs.YtfpghdcjdnifcaaGreat
open Go Go.Sl Go.IntWalk
set_option maxHeartbeats 8000000
set_option maxRecDepth 20000
set_option linter.unusedVariables false
def Piles {α : Type} (P : α → Nat → HL → Prop) : List α → List Nat → HL → Prop
 | [], bs, H => bs = [] ∧ H = []
 | e :: es, bs, H => ∃ b bs' He H', bs = b :: bs' ∧ H = He ++ H' ∧ P e b He ∧ Piles P es bs' H'
section
variable {α : Type} {P : α → Nat → HL → Prop}
theorem Piles.len : ∀ {es : List α} {bs : List Nat} {H : HL}, Piles P es bs H → bs.length = es.length
 | [], bs, H, h => by obtain ⟨rfl, _⟩ := h; rfl
 | e :: es, bs, H, h => by
  obtain ⟨x, bs', He, H', rfl, rfl, _, h2⟩ := h
  simp [h2.len]
theorem Piles.snoc : ∀ {es : List α} {bs : List Nat} {H : HL} {e : α} {x : Nat} {He : HL}, Piles P es bs H → P e x He → Piles P (es ++ [e]) (bs ++ [x]) (H ++ He)
 | [], bs, H, e, x, He, h, he => by
  obtain ⟨rfl, rfl⟩ := h
  exact ⟨x, [], He, [], rfl, by simp, he, rfl, rfl⟩
 | q :: es, bs, H, e, x, He, h, he => by
  obtain ⟨y, bs', Hq, H', rfl, rfl, h1, h2⟩ := h
  exact ⟨y, bs' ++ [x], Hq, H' ++ He, rfl, by simp, h1, h2.snoc he⟩
theorem Piles.split : ∀ {es : List α} {bs : List Nat} {H : HL} {i : Nat} (hi : i < es.length), Piles P es bs H → ∃ b H1 Hi H2, bs[i]? = some b ∧ H = H1 ++ (Hi ++ H2) ∧ P es[i] b Hi ∧
   ∀ e' Hi', P e' b Hi' → Piles P (es.set i e') bs (H1 ++ (Hi' ++ H2))
 | [], _, _, _, hi, _ => absurd hi (by simp)
 | e :: es, bs, H, 0, hi, h => by
  obtain ⟨x, bs', He, H', rfl, rfl, h1, h2⟩ := h
  exact ⟨x, [], He, H', rfl, rfl, h1, fun e' Hi' he => ⟨x, bs', Hi', H', rfl, rfl, he, h2⟩⟩
 | e :: es, bs, H, i + 1, hi, h => by
  obtain ⟨x, bs', He, H', rfl, rfl, h1, h2⟩ := h
  obtain ⟨y, H1, Hi, H2, g1, rfl, g2, g3⟩ := Piles.split (i := i) (by simpa using hi) h2
  refine ⟨y, He ++ H1, Hi, H2, by simpa using g1, by simp, by simpa using g2, fun e' Hi' he => ?_⟩
  exact ⟨x, bs', He, H1 ++ (Hi' ++ H2), rfl, by simp, h1, g3 e' Hi' he⟩
theorem PtsAt.piles : ∀ {ps : List Pt} {bs : List Nat} {H : HL}, PtsAt ps bs H ↔ Piles PtAt ps bs H
 | [], bs, H => Iff.rfl
 | p :: ps, bs, H => by
  constructor
  ·
   rintro ⟨b, bs', Hp, H', h1, h2, h3, h4⟩
   exact ⟨b, bs', Hp, H', h1, h2, h3, PtsAt.piles.1 h4⟩
  ·
   rintro ⟨b, bs', Hp, H', h1, h2, h3, h4⟩
   exact ⟨b, bs', Hp, H', h1, h2, h3, PtsAt.piles.2 h4⟩
end
structure Te where
 t : Tn
 d : Dv
 fl : List Bool
 kp : List Bool
structure Pl where
 c : Cf
 l : List Te
 now : Int
 epoch : Int
 down : Int
structure TeOk (dp : Int) (x : Cp) (e : Te) : Prop where
 ti : TInv dp.toNat e.t
 pg : e.t.pages = x.p
 q : (e.t.p.fs.length : Int) = x.q
 dk : e.d.Ok
 dl : (e.d.lasts.length : Int) = 2 * x.p
structure Pl.Inv (p : Pl) : Prop where
 ok : p.c.Ok
 cin : p.c.In
 len : p.l.length = p.c.ps.length
 te : ∀ (i : Nat) e x, p.l[i]? = some e → p.c.ps[i]? = some x → TeOk p.c.dp x e
 ep : 1 ≤ p.epoch ∧ p.epoch ≤ 1073741824
 dn : 0 ≤ p.down ∧ p.down ≤ 2
 now : 0 ≤ p.now
structure DCut (p : Pl) (D : Dv) : Prop where
 ok : D.Ok
 n : (D.lasts.length : Int) = p.c.se
 head : D.head = supB p.epoch p.c
 cut : ∀ (i : Nat) (e : Te) (x : Cp), p.l[i]? = some e → p.c.ps[i]? = some x → ∀ k : Nat, (k : Int) < 2 * x.p → D.lasts[x.b.toNat + k]? = e.d.lasts[k]? ∧ D.later[x.b.toNat + k]? = e.d.later[k]?
def ownL (x : Nat × Nat × Nat) : List Value := [.pointer (some ⟨x.1, 0, none⟩), .pointer (some ⟨x.2.1, 0, none⟩), .pointer (some ⟨x.2.2, 0, none⟩)]
def Owns (bts bfs bks : List Nat) : List Value := (bts.zip (bfs.zip bks)).flatMap ownL
def plCells (p : Pl) (ac : Option Addr) (cc bd ba bs : Nat) (al : Option Addr) (cl : Nat) : List Value :=
 [.int .i64 p.c.fr, .int .i64 p.c.dp, .int .i64 p.c.se, .slice ac p.c.ps.length cc, .pointer (some ⟨bd, 0, none⟩), .pointer (some ⟨ba, 0, none⟩), .pointer (some ⟨bs, 0, none⟩), .slice al p.l.length cl, .int .i64 p.now, .int .i64 p.epoch, .int .i64 p.down]
def arCells (n bs ba bl ca : Nat) (la : List Value) : HL := [(bs, Obj.cells (List.toArray [.int .i64 (n : Int)]) 238 (0, 0)), (ba, Obj.cells (List.toArray [.slice (some ⟨bl, 0, none⟩) n ca]) 241 (0, 0)), (bl, Obj.cells (List.toArray la) 173 (0, 0))]
structure PlK (p : Pl) (ac : Option Addr) (cc bs ba bl ca : Nat) (la : List Value) (bps : List Nat) (Hk : HL) : Prop where
 cs : ∃ Hc, Hk = arCells p.l.length bs ba bl ca la ++ Hc ∧ RoSl 3 (cps p.c.ps) ac p.c.ps.length Hc ∧ p.c.ps.length ≤ cc
 ar : p.l.length ≤ ca ∧ la.take p.l.length = ptrs bps
 n : p.l.length ≤ 16
structure PlT (p : Pl) (al : Option Addr) (bts bps bfs bks : List Nat) (Ho Ht Hp Hf Hk : HL) : Prop where
 own : RoSl 3 (Owns bts bfs bks) al p.l.length Ho
 ts : Piles (fun (e : Tn × Nat) b H => TAt p.c.dp.toNat e.1 b e.2 H) ((p.l.map Te.t).zip bps) bts Ht
 ps : Piles PtAt (p.l.map fun e => e.t.p) bps Hp
 fs : Piles StAt (p.l.map Te.fl) bfs Hf
 ks : Piles StAt (p.l.map Te.kp) bks Hk
def PlAt (p : Pl) (b : Nat) (H : HL) : Prop := ∃ (D : Dv) (ac : Option Addr) (cc bd ba bs : Nat) (al : Option Addr) (cl bl : Nat) (la : List Value) (ca : Nat) (bts bps bfs bks : List Nat) (Ho Ht Hp Hf Hk Hd Hc : HL),
 H = [(b, Obj.cells (List.toArray (plCells p ac cc bd ba bs al cl)) 162 (0, 0))] ++ (Ho ++ (Ht ++ (Hp ++ (Hf ++ (Hk ++ (Hd ++ Hc)))))) ∧
 PlT p al bts bps bfs bks Ho Ht Hp Hf Hk ∧ DevAt D bd Hd ∧ DCut p D ∧ PlK p ac cc bs ba bl ca la bps Hc
def noTe : Te := ⟨Tn.new 1 1, Dv.new 1, [], []⟩
def Pl.tn (p : Pl) (i : Int) : Te := p.l.getD i.toNat noTe
def Pl.in_ (p : Pl) (i : Int) : Prop := 0 ≤ i ∧ i < p.l.length
instance (p : Pl) (i : Int) : Decidable (p.in_ i) := by unfold Pl.in_; infer_instance
def Pl.setT (p : Pl) (i : Int) (t : Tn) : Pl := { p with l := p.l.set i.toNat { p.tn i with t := t } }
def Pl.submit (p : Pl) (i : Int) (q : Rq) : Pl × Int × Int :=
 if ¬ p.in_ i then (p, 0, 1) else if p.down ≠ 0 then (p, 0, 12) else
 (p.setT i ((p.tn i).t.submit p.c.dp.toNat q p.now).1, ((p.tn i).t.submit p.c.dp.toNat q p.now).2)
def teNew (fs ks : List (List Bool)) (i : Nat) (x : Cp) : Te := ⟨Tn.new x.q.toNat x.p, Dv.new (2 * x.p).toNat, fs.getD i [], ks.getD i []⟩
def Pl.new (c : Cf) (fs ks : List (List Bool)) : Pl := ⟨c, c.ps.mapIdx (teNew fs ks), 0, 1, 0⟩
theorem Pl.tn_get {p : Pl} {i : Nat} (h : i < p.l.length) : p.tn (i : Int) = p.l[i] := by
 unfold Pl.tn
 rw [Int.toNat_natCast, List.getD_eq_getElem?_getD, List.getElem?_eq_getElem h, Option.getD_some]
theorem PlHd {p : Pl} {b : Nat} {H : HL} (h : PlAt p b H) : ∃ ac cc bd ba bs al cl, (b, Obj.cells (List.toArray (plCells p ac cc bd ba bs al cl)) 162 (0, 0)) ∈ H := by
 obtain ⟨D, ac, cc, bd, ba, bs, al, cl, bl, la, ca, bts, bps, bfs, bks, Ho, Ht, Hp, Hf, Hk, Hd, Hc, rfl, -⟩ := h
 exact ⟨ac, cc, bd, ba, bs, al, cl, List.mem_append_left _ (List.mem_singleton.2 rfl)⟩
theorem PLenP_spec (p : Pl) (b : Nat) (H : HL) (h : PlAt p b H) : Ctr Tryz.prog 38 [.pointer (some ⟨b, 0, none⟩)] [] H (fun v L' => v = .int .i64 (p.l.length : Int) ∧ L' = []) := by
 obtain ⟨ac, cc, bd, ba, bs, al, cl, hm⟩ := PlHd h
 refine Ctr.enter (n := 8) [.tmp 2] [(0, _)] Tryz.func38 rfl rfl rfl (lb rfl) Tryz.call38 ⟨rfl, trivial⟩ ?_
 intro cx fin fin0
 refine aG ?_
 refine aV (OpVal.load tab_ok rfl (.inr hm) rfl) ?_
 repeat (first | refine gx ?_ | refine gN fun _ => ?_ | refine gB fun _ => ?_ | fail)
 refine W.ret (fin _ _ (FinOk.first 0 (.tmp rfl .nil) rfl ?_))
 exact ⟨rfl, rfl⟩
theorem PNow_spec (p : Pl) (b : Nat) (H : HL) (h : PlAt p b H) : Ctr Tryz.prog 39 [.pointer (some ⟨b, 0, none⟩)] [] H (fun v L' => v = .int .i64 p.now ∧ L' = []) := by
 obtain ⟨ac, cc, bd, ba, bs, al, cl, hm⟩ := PlHd h
 refine Ctr.enter (n := 7) [.tmp 2] [(0, _)] Tryz.func39 rfl rfl rfl (lb rfl) Tryz.call39 ⟨rfl, trivial⟩ ?_
 intro cx fin fin0
 refine aG ?_
 refine aV (OpVal.load tab_ok rfl (.inr hm) rfl) ?_
 refine W.ret (fin _ _ (FinOk.first 0 (.tmp rfl .nil) rfl ?_))
 exact ⟨rfl, rfl⟩
theorem PEpoch_spec (p : Pl) (b : Nat) (H : HL) (h : PlAt p b H) : Ctr Tryz.prog 40 [.pointer (some ⟨b, 0, none⟩)] [] H (fun v L' => v = .int .i64 p.epoch ∧ L' = []) := by
 obtain ⟨ac, cc, bd, ba, bs, al, cl, hm⟩ := PlHd h
 refine Ctr.enter (n := 7) [.tmp 2] [(0, _)] Tryz.func40 rfl rfl rfl (lb rfl) Tryz.call40 ⟨rfl, trivial⟩ ?_
 intro cx fin fin0
 refine aG ?_
 refine aV (OpVal.load tab_ok rfl (.inr hm) rfl) ?_
 refine W.ret (fin _ _ (FinOk.first 0 (.tmp rfl .nil) rfl ?_))
 exact ⟨rfl, rfl⟩
theorem PReady_spec (p : Pl) (b : Nat) (H : HL) (h : PlAt p b H) : Ctr Tryz.prog 41 [.pointer (some ⟨b, 0, none⟩)] [] H (fun v L' => v = .bool (decide (p.down = 0)) ∧ L' = []) := by
 obtain ⟨ac, cc, bd, ba, bs, al, cl, hm⟩ := PlHd h
 refine Ctr.enter (n := 8) [.tmp 2] [(0, _)] Tryz.func41 rfl rfl rfl (lb rfl) Tryz.call41 ⟨rfl, trivial⟩ ?_
 intro cx fin fin0
 refine aG ?_
 refine aV (OpVal.load tab_ok rfl (.inr hm) rfl) ?_
 repeat (first | refine gx ?_ | refine gN fun _ => ?_ | refine gB fun _ => ?_ | fail)
 refine W.ret (fin _ _ (FinOk.first 0 (.tmp rfl .nil) rfl ?_))
 exact ⟨rfl, rfl⟩
theorem PIn_spec (p : Pl) (b : Nat) (H : HL) (h : PlAt p b H) (i : Int) : Ctr Tryz.prog 93 [.pointer (some ⟨b, 0, none⟩), .int .i64 i] [] H (fun v L' => v = .bool (decide (p.in_ i)) ∧ L' = []) := by
 obtain ⟨ac, cc, bd, ba, bs, al, cl, hm⟩ := PlHd h
 unfold Pl.in_
 refine Ctr.enter (n := 16) [.tmp 4] [(0, _), (1, _)] Tryz.func93 rfl rfl rfl (lb rfl) Tryz.call93 ⟨rfl, rfl, trivial⟩ ?_
 intro cx fin fin0
 refine aG ?_
 by_cases h : 0 ≤ i
 ·
  repeat (first | refine gh h ?_ | refine gN fun _ => ?_ | refine gB fun _ => ?_ | fail)
  refine aV (OpVal.load tab_ok rfl (.inr hm) rfl) ?_
  repeat (first | refine gh h ?_ | refine gN fun _ => ?_ | refine gB fun _ => ?_ | fail)
  refine W.ret (fin _ _ (FinOk.first 0 (.tmp rfl .nil) rfl ?_))
  exact ⟨by simp [pack, h], rfl⟩
 ·
  repeat (first | refine gh h ?_ | refine gN fun _ => ?_ | refine gB fun _ => ?_ | fail)
  refine W.ret (fin _ _ (FinOk.first 0 (.tmp rfl .nil) rfl ?_))
  exact ⟨by simp [pack, h], rfl⟩
end Go.Proofs.YtfpghdcjdnifcaaGreat
namespace Go.Proofs.YtfpghdcjdnifcaaGreat
open Go Go.Sl Go.IntWalk
set_option maxHeartbeats 8000000
set_option maxRecDepth 20000
structure Rq.In (q : Rq) : Prop where
 op : i64s q.op
 page : i64s q.page
 off : i64s q.off
 len : i64s q.len
end Go.Proofs.YtfpghdcjdnifcaaGreat
namespace Go.Proofs.YtfpghdcjdnifcaaGreat
open Go Go.Sl Go.IntWalk
set_option maxHeartbeats 8000000
set_option maxRecDepth 20000
end Go.Proofs.YtfpghdcjdnifcaaGreat
namespace Go.Proofs.YtfpghdcjdnifcaaGreat
open Go Go.Sl Go.IntWalk
set_option maxHeartbeats 8000000
set_option maxRecDepth 20000
def lq : Rq := ⟨1, 3, 0, 0, []⟩
def z16 : List Int := List.replicate 16 0
def l1 : Mc × Pt × Re := mBegin Mc.idle (Pt.new 1) lq
def l2 : Mc × Pt × Re := mEnd l1.1 l1.2.1 0 z16
def l3 : Mc × Pt × Re := mEnd l2.1 l2.2.1 0 z16
def l4 : Mc × Pt × Re := mBegin l3.1 l3.2.1 lq
end Go.Proofs.YtfpghdcjdnifcaaGreat
namespace Go.Sl
set_option linter.unusedVariables false
open Go Go.RowKit Go.ChangeShapes Go.WideShapes Go.Deep
theorem wf_i64 {a : Int} (h : (Lit.int .i64 a).wf = true) : i64s a := by
 simp only [Lit.wf, Bool.and_eq_true, decide_eq_true_eq] at h
 exact h
section
variable {H : Type} {enc : TypeId × Value → H} {P : Program} {w : World} {spare : Nat → Bool} {held : Bool} {X Y : Type}
structure Opens (enc : TypeId × Value → H) (P : Program) (w : World) (spare : Nat → Bool) (held : Bool) (t : TypeId) (m : Nat) (f : X → List Value) (Ok : X → Prop) : Prop where
 len : ∀ x, (f x).length = m
 cells : P.cellsOf t = m
 go : ∀ (fuel : Nat) (cs : List Value) (y : DataW H × List MemPlace), DataW.trod enc P w 0 spare held fuel t cs = some y → ∃ x, cs = f x ∧ Ok x
theorem Opens.int {t : TypeId} {kk : IntKind} {Ok : Int → Prop} (ht : P.underlying t = some (.int kk)) (hc : P.cellsOf t = 1) (hw : ∀ i, (Lit.int kk i).wf = true → Ok i) :
  Opens enc P w spare held t 1 (fun i => [Value.int kk i]) Ok :=
 ⟨fun _ => rfl, hc, fun _ _ _ h => by obtain ⟨i, rfl, _, hwf⟩ := DataW.trod_int ht h; exact ⟨i, rfl, hw i hwf⟩⟩
theorem Opens.bool {t : TypeId} (ht : P.underlying t = some .bool) (hc : P.cellsOf t = 1) : Opens enc P w spare held t 1 (fun b => [Value.bool b]) (fun _ => True) :=
 ⟨fun _ => rfl, hc, fun _ _ _ h => by obtain ⟨i, rfl, _⟩ := DataW.trod_bool ht h; exact ⟨i, rfl, trivial⟩⟩
theorem Opens.imp {t : TypeId} {m : Nat} {f f' : X → List Value} {Ok Ok' : X → Prop} (h : Opens enc P w spare held t m f Ok) (hf : ∀ x, f x = f' x) (hok : ∀ x, Ok x → Ok' x) : Opens enc P w spare held t m f' Ok' :=
 ⟨fun x => by rw [← hf]; exact h.len x, h.cells, fun fuel cs y hy => by obtain ⟨x, e, o⟩ := h.go fuel cs y hy; exact ⟨x, by rw [← hf]; exact e, hok x o⟩⟩
def SlD.l (s : SlD X) : List Value := [.slice s.a s.xs.length s.cap]
structure SlD.Ok (w : World) (m : Nat) (f : X → List Value) (okx : X → Prop) (s : SlD X) : Prop where
 ro : RoSl m (s.xs.flatMap f) s.a s.xs.length s.ro
 mem : ∀ p ∈ s.ro, w.heap[p.1]? = some p.2
 all : ∀ x ∈ s.xs, okx x
 cap : s.xs.length ≤ s.cap
 max : s.cap ≤ maxLen
theorem Opens.sl {t e : TypeId} {m : Nat} {f : X → List Value} {Ok : X → Prop} (he : Opens enc P w spare held e m f Ok) (hm : 0 < m) (ht : P.underlying t = some (.slice e)) (hct : P.cellsOf t = 1) :
  Opens enc P w spare held t 1 SlD.l (SlD.Ok w m f Ok) := by
 refine ⟨fun _ => rfl, hct, fun fuel cs y h => ?_⟩
 have hf := he.len
 have hC := he.cells
 rcases open_slice ht h with ⟨hcs, _⟩ | ⟨a', len, cap, m', n', D, Pl, hcs, _, hlc, hcm, hmm, _, hel⟩
 · exact ⟨⟨none, 0, [], []⟩, hcs, ⟨by simp, .inl ⟨rfl, rfl⟩⟩, fun _ h => (by cases h), fun _ h => (by cases h), Nat.le_refl _, by simp [maxLen]⟩
 ·
  have hml : len ≤ m' := by rw [hmm]; split <;> omega
  rw [hC] at hel
  have hel2 : ∀ i, i < len → ∃ x, (∀ j, j < m → w.cell? (a'.add (i * m + j)) = (f x)[j]?) ∧ Ok x := by
   intro i hi
   obtain ⟨cs', h1, h2⟩ := hel i (by omega)
   obtain ⟨x, rfl, hx⟩ := he.go _ _ _ h2
   obtain ⟨_, _, h3⟩ := World.cells?_some h1
   refine ⟨x, fun j hj => ?_, hx⟩
   rw [← h3 j hj, Go.Deep.add_add]
  obtain ⟨xs, hxl, hxs⟩ := choose_list _ len hel2
  by_cases h0 : len = 0
  ·
   subst h0
   have : xs = [] := List.eq_nil_of_length_eq_zero hxl
   subst this
   exact ⟨⟨some a', cap, [], []⟩, hcs, ⟨by simp, .inl ⟨rfl, rfl⟩⟩, fun _ h => (by cases h), fun _ h => (by cases h), Nat.zero_le _, hcm⟩
  ·
   subst hxl
   have c0 := (hxs 0 (by omega)).1 0 hm
   simp only [Nat.zero_mul, Nat.zero_add] at c0
   have hlt0 : 0 < (f (xs[0]'(by omega))).length := by rw [hf]; exact hm
   rw [List.getElem?_eq_getElem hlt0] at c0
   obtain ⟨c, e', fr, hb, hsp, hc0⟩ := block_of_cell c0
   have hadd0 : a'.add 0 = a' := by simp [Addr.add]
   rw [hadd0] at hb hsp hc0
   obtain ⟨b, off, sp⟩ := a'
   simp only at hsp hb hc0
   subst hsp
   have hcell : ∀ i (hi : i < xs.length), ∀ j, j < m → c.toList[off + (i * m + j)]? = (f xs[i])[j]? := by
    intro i hi j hj
    have := (hxs i hi).1 j hj
    rw [Go.Sl.Addr.add_none', cell_of_row w b _ c e' fr hb] at this
    rw [← this]; simp
   have hlen : off + xs.length * m ≤ c.toList.length := by
    have h1 := hcell (xs.length - 1) (by omega) (m - 1) (by omega)
    have hfl : m - 1 < (f (xs[xs.length - 1]'(by omega))).length := by rw [hf]; omega
    rw [List.getElem?_eq_getElem hfl] at h1
    have h2 := (List.getElem?_eq_some_iff.1 h1).1
    have h3 : xs.length * m = (xs.length - 1) * m + m := by
     rw [← Nat.succ_mul]; congr 1; omega
    omega
   refine ⟨⟨some ⟨b, off, none⟩, cap, xs, [(b, .cells c e' fr)]⟩, hcs, ⟨flatMap_len f m hf xs, .inr ⟨b, off, c.toList, e', fr, rfl, by simp, hlen, ?_⟩⟩, ?_, ?_, hlc, hcm⟩
   ·
    refine flatMap_of_segs f m hf xs _ (by simp at hlen ⊢; omega) (fun i hi => ?_)
    apply List.ext_getElem?
    intro j
    by_cases hj : j < m
    ·
     have h1 : i * m + m ≤ xs.length * m := by rw [← Nat.succ_mul]; exact Nat.mul_le_mul_right m hi
     dsimp only
     rw [List.getElem?_take, if_pos hj, List.getElem?_drop, List.getElem?_take, if_pos (by omega), List.getElem?_drop, hcell i hi j hj]
    · rw [List.getElem?_eq_none (by simp; omega), List.getElem?_eq_none (by rw [hf]; omega)]
   ·
    intro p hp
    simp at hp
    subst hp
    exact hb
   ·
    intro x hx
    obtain ⟨i, hi, rfl⟩ := List.getElem_of_mem hx
    exact (hxs i hi).2
structure OpenF (enc : TypeId × Value → H) (P : Program) (w : World) (spare : Nat → Bool) (held : Bool) (fs : List (TypeId × Nat)) (m : Nat) (f : X → List Value) (Ok : X → Prop) : Prop where
 len : ∀ x, (f x).length = m
 go : ∀ (cs : List Value), cs.length = m → (∀ (i o : Nat) (t : TypeId) (k : Nat), fs[i]? = some (t, k) → o = ((fs.take i).map (·.2)).sum → ∃ n y, DataW.trod enc P w 0 spare held n t ((cs.drop o).take k) = some y) → ∃ x, cs = f x ∧ Ok x
theorem OpenF.nil : OpenF enc P w spare held [] 0 (fun _ : Unit => []) (fun _ => True) := ⟨fun _ => rfl, fun cs h _ => ⟨(), List.eq_nil_of_length_eq_zero h, trivial⟩⟩
theorem OpenF.cons {t : TypeId} {k m : Nat} {fs : List (TypeId × Nat)} {f : X → List Value} {g : Y → List Value} {Ok : X → Prop} {Ok' : Y → Prop} (h1 : Opens enc P w spare held t k f Ok) (h2 : OpenF enc P w spare held fs m g Ok') :
  OpenF enc P w spare held ((t, k) :: fs) (k + m) (fun q : X × Y => f q.1 ++ g q.2) (fun q => Ok q.1 ∧ Ok' q.2) := by
 refine ⟨fun q => by rw [List.length_append, h1.len, h2.len], fun cs hl hg => ?_⟩
 obtain ⟨n, y, h3⟩ := hg 0 0 t k rfl rfl
 obtain ⟨x, e1, o1⟩ := h1.go _ _ _ h3
 obtain ⟨z, e2, o2⟩ := h2.go (cs.drop k) (by rw [List.length_drop]; omega) (fun i o t' k' hi ho => by
  obtain ⟨n', y', h4⟩ := hg (i + 1) (k + o) t' k' (by simpa using hi) (by simp [ho])
  exact ⟨n', y', by rw [List.drop_drop]; exact h4⟩)
 refine ⟨(x, z), ?_, o1, o2⟩
 simp only [List.drop_zero] at e1
 rw [← e1, ← e2, List.take_append_drop]
def sums : Nat → List (TypeId × Nat) → List (TypeId × Nat)
 | _, [] => []
 | o, (t, k) :: r => (t, o) :: sums (o + k) r
theorem sums_get : ∀ (fs : List (TypeId × Nat)) (o i : Nat) (t : TypeId) (k : Nat), fs[i]? = some (t, k) → (sums o fs)[i]? = some (t, o + ((fs.take i).map (·.2)).sum)
 | (t', k') :: r, o, 0, t, k, h => by simp at h; obtain ⟨rfl, rfl⟩ := h; simp [sums]
 | (t', k') :: r, o, i + 1, t, k, h => by
  have := sums_get r (o + k') i t k (by simpa using h)
  simp only [sums, List.getElem?_cons_succ, this, List.take_succ_cons, List.map_cons, List.sum_cons]
  congr 2
  omega
 | [], _, _, _, _, h => by simp at h
theorem Opens.st {t : TypeId} {fa : Array Field} {fs : List (TypeId × Nat)} {m : Nat} {f : X → List Value} {Ok : X → Prop} (h : OpenF enc P w spare held fs m f Ok) (ht : P.underlying t = some (.struct fa))
  (hf : fa.toList.map (fun f => (f.type, f.offset)) = sums 0 fs) (hc : P.cellsOf t = m) (hcs : ∀ q ∈ fs, P.cellsOf q.1 = q.2) : Opens enc P w spare held t m f Ok := by
 refine ⟨h.len, hc, fun fuel cs y hy => ?_⟩
 obtain ⟨xs, n, _, _, hlen, hxl, hg⟩ := DataW.trod_struct ht hy
 refine h.go cs (by rw [hlen, hc]) (fun i o t' k hi ho => ?_)
 have h1 := sums_get fs 0 i t' k hi
 rw [← hf, List.getElem?_map, Option.map_eq_some_iff] at h1
 obtain ⟨fd, h2, h3⟩ := h1
 simp only [Prod.mk.injEq] at h3
 have h2' : fa[i]? = some fd := by simpa using h2
 have h4 := hg i fd h2'
 have hk := hcs (t', k) (List.mem_of_getElem? hi)
 simp only at hk
 rw [h3.1, h3.2, hk, Nat.zero_add, ← ho] at h4
 have hil : i < xs.length := by
  rw [hxl]
  exact (Array.getElem?_eq_some_iff.1 h2').1
 rw [List.getElem?_eq_getElem hil] at h4
 exact ⟨n, _, h4⟩
theorem Opens.argSt {t : TypeId} {fa : Array Field} {m : Nat} {f : X → List Value} {Ok : X → Prop} (ho : Opens enc P w spare held t m f Ok) (ht : P.underlying t = some (.struct fa))
  {r : Reach} {b0 : Nat} {v : Value} {d : DataW H} {ps : List MemPlace} (hok : Value.okWide P w r b0 t v) (h : DataW.Trod enc P w 0 spare held t v d ps) : ∃ x : X, v = .agg (f x).toArray ∧ Ok x := by
 obtain ⟨cs, rfl, _⟩ := okWide_struct ht hok
 obtain ⟨fuel, hf⟩ := h
 obtain ⟨x, e1, e2⟩ := ho.go _ _ _ hf
 refine ⟨x, ?_, e2⟩
 simp only [Value.cells] at e1
 rw [← e1]
end
end Go.Sl
namespace Go.Proofs.YtfpghdcjdnifcaaGreat
open Go Go.Sl Go.IntWalk
set_option maxHeartbeats 8000000
set_option maxRecDepth 20000
structure QD where
 op : Int
 page : Int
 off : Int
 len : Int
 b : SlD Int
def QD.l (o : QD) : List Value := [.int .i64 o.op, .int .i64 o.page, .int .i64 o.off, .int .i64 o.len, .slice o.b.a o.b.xs.length o.b.cap]
structure QD.Ok (o : QD) : Prop where
 inn : Rq.In ⟨o.op, o.page, o.off, o.len, o.b.xs⟩
 ro : RoSl 1 (u8s o.b.xs) o.b.a o.b.xs.length o.b.ro
 u8 : u8ok o.b.xs
def QD.q (o : QD) : Rq := ⟨o.op, o.page, o.off, o.len, o.b.xs⟩
def QD.of (q : Int × Int × Int × Int × SlD Int × Unit) : QD := ⟨q.1, q.2.1, q.2.2.1, q.2.2.2.1, q.2.2.2.2.1⟩
section
variable {H : Type} {enc : TypeId × Value → H} {w : World} {spare : Nat → Bool} {held : Bool}
end
end Go.Proofs.YtfpghdcjdnifcaaGreat
namespace Go.Proofs.YtfpghdcjdnifcaaGreat
open Go Go.Sl Go.IntWalk
set_option maxHeartbeats 8000000
set_option maxRecDepth 20000
theorem doPage_len (p : Pt) (page : Int) (g : Fr → Fr × Int) : (p.doPage page g).1.fs.length = p.fs.length := by
 unfold Pt.doPage
 split
 · simp [Pt.setF]
 · rfl
theorem get_len (p : Pt) (page off n : Int) : (p.get page off n).1.fs.length = p.fs.length := by
 unfold Pt.get
 split
 · simp [Pt.setF]
 · rfl
theorem victim_len (p : Pt) : p.victim.1.fs.length = p.fs.length := setAll_len _ _
theorem release_len (p : Pt) (i : Int) : (p.release i).1.fs.length = p.fs.length := by
 unfold Pt.release
 split
 · rfl
 ·
  split
  · simp
  · rfl
theorem load_len (p : Pt) (i page : Int) (bs : List Int) : (p.load i page bs).1.fs.length = p.fs.length := by
 unfold Pt.load
 split
 ·
  split
  · simp
  · rfl
 · rfl
theorem mStored_len (m : Mc) (p : Pt) (page : Int) : (mStored m p page).1.fs.length = p.fs.length := by
 unfold mStored
 split
 · simp only [release_len, clean_len]
 · simp only [clean_len]
theorem mStep_len (m : Mc) (p : Pt) (bs : List Int) : (mStep m p bs).2.1.fs.length = p.fs.length := by
 unfold mStep
 split
 · exact mStored_len m p _
 · split <;> rfl
theorem mEnd_len (m : Mc) (p : Pt) (e : Int) (bs : List Int) : (mEnd m p e bs).2.1.fs.length = p.fs.length := by
 unfold mEnd
 split
 · rfl
 ·
  split
  · exact mStep_len m p bs
  ·
   simp only
   split
   · rw [doPage_len, load_len, mStep_len]
   · exact mStep_len m p bs
theorem mBegin_len (m : Mc) (p : Pt) (q : Rq) : (mBegin m p q).2.1.fs.length = p.fs.length := by
 unfold mBegin mOp
 split
 ·
  unfold mFetch
  split
  · exact doPage_len _ _ _
  ·
   unfold mMiss
   split
   · exact victim_len p
   ·
    simp only
    split
    · rw [release_len, victim_len]
    · exact victim_len p
 ·
  split
  · exact get_len _ _ _ _
  ·
   split
   · exact doPage_len _ _ _
   ·
    split
    · exact doPage_len _ _ _
    ·
     split
     · rfl
     ·
      split
      · rfl
      ·
       split
       ·
        unfold mDiscard
        split
        · rfl
        · exact release_len _ _
       · rfl
end Go.Proofs.YtfpghdcjdnifcaaGreat
namespace Go.Proofs.YtfpghdcjdnifcaaGreat
open Go Go.Sl Go.IntWalk
set_option maxHeartbeats 8000000
set_option maxRecDepth 20000
set_option linter.unusedVariables false
theorem run_same (tick : Int) : ∀ (n : Nat) (t : Tn), (t.run tick n).p.fs.length = t.p.fs.length ∧ (t.run tick n).pages = t.pages
 | 0, t => ⟨rfl, rfl⟩
 | n + 1, t => by
  unfold Tn.run
  split
  ·
   have h := run_same tick n (t.begun tick)
   rw [h.1, h.2]
   unfold Tn.begun Tn.tell
   split <;> exact ⟨mBegin_len _ _ _, rfl⟩
  · exact ⟨rfl, rfl⟩
theorem submit_same (d : Nat) (t : Tn) (q : Rq) (tick : Int) : (t.submit d q tick).1.p.fs.length = t.p.fs.length ∧ (t.submit d q tick).1.pages = t.pages := by
 unfold Tn.submit
 split
 · exact ⟨rfl, rfl⟩
 ·
  split
  · exact ⟨rfl, rfl⟩
  · exact run_same tick _ _
theorem over_same (t : Tn) (e : Int) (bs : List Int) (tick : Int) : (t.over e bs tick).p.fs.length = t.p.fs.length ∧ (t.over e bs tick).pages = t.pages := by
 unfold Tn.over Tn.go
 have h := run_same tick ((({ t with m := (mEnd t.m t.p e bs).1, p := (mEnd t.m t.p e bs).2.1 } : Tn).tell (mEnd t.m t.p e bs).2.2 tick)).js.length (({ t with m := (mEnd t.m t.p e bs).1, p := (mEnd t.m t.p e bs).2.1 } : Tn).tell (mEnd t.m t.p e bs).2.2 tick)
 rw [h.1, h.2]
 unfold Tn.tell
 split <;> exact ⟨mEnd_len _ _ _ _, rfl⟩
theorem over_ids (t : Tn) (e : Int) (bs : List Int) (tick : Int) : (t.over e bs tick).ids = t.ids := by
 unfold Tn.over Tn.go
 rw [run_ids, tell_ids]
end Go.Proofs.YtfpghdcjdnifcaaGreat
namespace Go.Proofs.YtfpghdcjdnifcaaGreat
open Go Go.Sl Go.IntWalk
set_option maxHeartbeats 8000000
set_option maxRecDepth 20000
set_option linter.unusedVariables false
theorem zip_set {α β : Type} : ∀ (xs : List α) (ys : List β) (i : Nat) (a : α) (y : β), ys[i]? = some y → (xs.set i a).zip ys = (xs.zip ys).set i (a, y)
 | [], ys, i, a, y, h => by simp
 | x :: xs, [], i, a, y, h => by simp at h
 | x :: xs, z :: ys, 0, a, y, h => by
  simp only [List.getElem?_cons_zero, Option.some.injEq] at h
  subst h
  rfl
 | x :: xs, z :: ys, i + 1, a, y, h => by
  simp only [List.set_cons_succ, List.zip_cons_cons]
  rw [zip_set xs ys i a y (by simpa using h)]
theorem setT_len (p : Pl) (i : Int) (t : Tn) : (p.setT i t).l.length = p.l.length := by simp [Pl.setT]
section
variable {p : Pl} {al : Option Addr} {bts bps bfs bks : List Nat} {Ho Ht Hp Hf Hk : HL}
theorem PlT.lens (h : PlT p al bts bps bfs bks Ho Ht Hp Hf Hk) : bts.length = p.l.length ∧ bps.length = p.l.length ∧ bfs.length = p.l.length ∧ bks.length = p.l.length := by
 have h2 := h.ps.len
 have h1 := h.ts.len
 have h3 := h.fs.len
 have h4 := h.ks.len
 simp only [List.length_zip, List.length_map] at h1 h2 h3 h4
 omega
theorem PlT.own_at (h : PlT p al bts bps bfs bks Ho Ht Hp Hf Hk) {i : Nat} (hi : i < p.l.length) : ∃ bt bf bk bx ox lx ex frx, bts[i]? = some bt ∧ bfs[i]? = some bf ∧ bks[i]? = some bk ∧ al = some ⟨bx, ox, none⟩ ∧ Ho = [(bx, .cells (List.toArray lx) ex frx)] ∧
  lx[ox + i * 3 + 0]? = some (.pointer (some ⟨bt, 0, none⟩)) ∧ seg? lx (ox + i * 3) 3 = some (ownL (bt, bf, bk)) := by
 obtain ⟨h1, h2, h3, h4⟩ := h.lens
 have hz : (bts.zip (bfs.zip bks)).length = p.l.length := by simp only [List.length_zip]; omega
 have ho := h.own
 unfold Owns at ho
 rw [← hz] at ho
 obtain ⟨bx, ox, lx, ex, frx, e1, e2, e3, e4⟩ := RoSl.at (f := ownL) (m := 3) (fun _ => rfl) ho (show i < (bts.zip (bfs.zip bks)).length by omega)
 have hg : (bts.zip (bfs.zip bks))[i] = (bts[i], (bfs[i], bks[i])) := by simp
 rw [hg] at e3 e4
 exact ⟨bts[i], bfs[i], bks[i], bx, ox, lx, ex, frx, List.getElem?_eq_getElem _, List.getElem?_eq_getElem _, List.getElem?_eq_getElem _, e1, e2, e4 0 (by decide), e3⟩
theorem PlT.cut (h : PlT p al bts bps bfs bks Ho Ht Hp Hf Hk) {i : Nat} (hi : i < p.l.length) : ∃ bt bp T1 Ti T2 P1 Pi P2, bts[i]? = some bt ∧ bps[i]? = some bp ∧ Ht = T1 ++ (Ti ++ T2) ∧ Hp = P1 ++ (Pi ++ P2) ∧ TAt p.c.dp.toNat (p.tn i).t bt bp Ti ∧ PtAt (p.tn i).t.p bp Pi ∧
  ∀ t' Ti' Pi', TAt p.c.dp.toNat t' bt bp Ti' → PtAt t'.p bp Pi' → PlT (p.setT i t') al bts bps bfs bks Ho (T1 ++ (Ti' ++ T2)) (P1 ++ (Pi' ++ P2)) Hf Hk := by
 obtain ⟨h1, h2, h3, h4⟩ := h.lens
 rw [Pl.tn_get hi]
 have hbp : bps[i]? = some bps[i] := List.getElem?_eq_getElem _
 obtain ⟨bt, T1, Ti, T2, t1, t2, t3, t4⟩ := h.ts.split (i := i) (by simp only [List.length_zip, List.length_map]; omega)
 obtain ⟨bp, P1, Pi, P2, p1, p2, p3, p4⟩ := h.ps.split (i := i) (by simpa using hi)
 rw [hbp] at p1
 cases p1
 refine ⟨bt, bps[i], T1, Ti, T2, P1, Pi, P2, t1, hbp, t2, p2, by simpa using t3, by simpa using p3, fun t' Ti' Pi' g1 g2 => ?_⟩
 have hset : ∀ {β : Type} (f : Te → β), (p.setT i t').l.map f = (p.l.map f).set i (f { p.tn i with t := t' }) := fun f => by
  unfold Pl.setT
  simp only [Int.toNat_natCast]
  rw [List.map_set]
 have hsame : ∀ {β : Type} (f : Te → β), f { p.tn i with t := t' } = f (p.l[i]) → (p.setT i t').l.map f = p.l.map f := fun f hf => by
  rw [hset, hf]
  refine List.ext_getElem (by simp) fun k a b => ?_
  rw [List.getElem_set]
  split
  · rename_i hk; subst hk; simp
  · rfl
 refine ⟨?_, ?_, ?_, ?_, ?_⟩
 · rw [setT_len]; exact h.own
 ·
  rw [hset, zip_set _ _ _ _ _ hbp]
  exact t4 (t', bps[i]) Ti' g1
 ·
  rw [hset]
  exact p4 t'.p Pi' g2
 · rw [hsame Te.fl (by show (p.tn i).fl = _; rw [Pl.tn_get hi])]; exact h.fs
 · rw [hsame Te.kp (by show (p.tn i).kp = _; rw [Pl.tn_get hi])]; exact h.ks
end
theorem setT_get {p : Pl} {i : Nat} (hi : i < p.l.length) (t' : Tn) {j : Nat} {e : Te} (h : (p.setT i t').l[j]? = some e) : ∃ e0, p.l[j]? = some e0 ∧ e.d = e0.d ∧ e.fl = e0.fl ∧ e.kp = e0.kp ∧ ((j = i ∧ e.t = t') ∨ (j ≠ i ∧ e = e0)) := by
 unfold Pl.setT at h
 simp only [Int.toNat_natCast] at h
 rw [List.getElem?_set] at h
 split at h
 ·
  rename_i hj
  subst hj
  cases h
  rw [Pl.tn_get hi]
  exact ⟨p.l[i], List.getElem?_eq_getElem hi, rfl, rfl, rfl, .inl ⟨rfl, rfl⟩⟩
 ·
  rename_i hj
  exact ⟨e, h, rfl, rfl, rfl, .inr ⟨Ne.symm hj, rfl⟩⟩
theorem DCut.setT {p : Pl} {D : Dv} (h : DCut p D) {i : Nat} (hi : i < p.l.length) (t' : Tn) : DCut (p.setT i t') D := ⟨h.ok, h.n, h.head, fun j e x he hx k hk => by
 obtain ⟨e0, h1, h2, -⟩ := setT_get hi t' he
 rw [h2]
 exact h.cut j e0 x h1 hx k hk⟩
theorem PlK.setT {p : Pl} {ac : Option Addr} {cc bs ba bl ca : Nat} {la : List Value} {bps : List Nat} {Hk : HL} (h : PlK p ac cc bs ba bl ca la bps Hk) (i : Int) (t' : Tn) : PlK (p.setT i t') ac cc bs ba bl ca la bps Hk := by
 refine ⟨?_, ?_, ?_⟩ <;> rw [setT_len]
 · exact h.cs
 · exact h.ar
 · exact h.n
theorem Pl.Inv.setT {p : Pl} (h : p.Inv) {i : Nat} (hi : i < p.l.length) {t' : Tn} (h1 : TInv p.c.dp.toNat t') (h2 : t'.pages = (p.tn i).t.pages) (h3 : t'.p.fs.length = (p.tn i).t.p.fs.length) : (p.setT i t').Inv :=
 ⟨h.ok, h.cin, by rw [setT_len]; exact h.len, fun j e x he hx => by
  obtain ⟨e0, g1, g2, g3, g4, g5⟩ := setT_get hi t' he
  have hk := h.te j e0 x g1 hx
  rcases g5 with ⟨rfl, rfl⟩ | ⟨-, rfl⟩
  ·
   rw [Pl.tn_get hi] at h2 h3
   rw [List.getElem?_eq_getElem hi] at g1
   cases g1
   exact ⟨h1, by rw [h2]; exact hk.pg, by rw [h3]; exact hk.q, by rw [g2]; exact hk.dk, by rw [g2]; exact hk.dl⟩
  · exact hk, h.ep, h.dn, h.now⟩
theorem Pl.Inv.at {p : Pl} (h : p.Inv) {i : Nat} (hi : i < p.l.length) : ∃ x, p.c.ps[i]? = some x ∧ x ∈ p.c.ps ∧ TeOk p.c.dp x (p.tn i) := by
 have hl := h.len
 rw [Pl.tn_get hi]
 exact ⟨p.c.ps[i], List.getElem?_eq_getElem _, List.getElem_mem _, h.te i _ _ (List.getElem?_eq_getElem hi) (List.getElem?_eq_getElem _)⟩
theorem splT {P : Program} {n : Nat} {R : HL} {cx : Cx} {K : List Kont} {ρ : Env} {L M : List HL} {A Ho T1 Ti T2 P1 Pi P2 Z : HL} (h : L = (A ++ (Ho ++ ((T1 ++ (Ti ++ T2)) ++ ((P1 ++ (Pi ++ P2)) ++ Z)))) :: M)
  (hk : W P n R cx K ρ (A :: Ho :: T1 :: Ti :: T2 :: P1 :: Pi :: P2 :: Z :: M)) : W P n R cx K ρ L := by
 subst h
 exact W.regroup (by simp) hk
theorem PSubmit_spec (p : Pl) (hi : p.Inv) (b : Nat) (H : HL) (h : PlAt p b H) (i : Int) (hid : p.in_ i → (p.tn i).t.ids < 1000000) (q : Rq) (hu : u8ok q.data) (hl : q.data.length ≤ 1000000) (hoi : i64s q.off) (hop : i64s q.op) (aq : Option Addr) (cq : Nat) (rq : HL) (hrq : RoSl 1 (u8s q.data) aq q.data.length rq) :
  Ctr Tryz.prog 53 [.pointer (some ⟨b, 0, none⟩), .int .i64 i, q.v aq cq] [H] rq (fun v L' => ∃ H', v = .tuple #[.int .i64 (p.submit i q).2.1, .int .i64 (p.submit i q).2.2] ∧ L' = [H'] ∧ PlAt (p.submit i q).1 b H') := by
 have hI := PIn_spec p b H h i
 have hR := PReady_spec p b H h
 have hpa := h
 unfold Pl.submit
 rcases Classical.em (p.in_ i) with hin | hin
 case' inr =>
  obtain ⟨qo, qp, qf, ql, qd⟩ := q
  simp only [Rq.v]
  refine Ctr.enter (n := 33) [.tmp 6, .tmp 7] [(0, _), (1, _), (2, _)] Tryz.func53 rfl rfl rfl (lb rfl) Tryz.call53 ⟨rfl, rfl, rfl, trivial⟩ ?_
  intro cx fin fin0
  refine aG ?_
  repeat (first | refine gx ?_ | refine gN fun _ => ?_ | refine gB fun _ => ?_ | fail)
  refine aC (o := hI) (h := ?_) (hro := RoIn.own 1 rfl)
  rintro _ _ ⟨rfl, rfl⟩
  refine aG ?_
  repeat (first | refine gh hin ?_ | refine gN fun _ => ?_ | refine gB fun _ => ?_ | fail)
  refine W.groupV [1] rfl ?_
  refine W.ret (fin _ _ (FinOk.first 1 (.tmp rfl (.tmp rfl .nil)) rfl ?_))
  rw [if_pos hin]
  exact ⟨_, rfl, rfl, hpa⟩
 rcases Classical.em (p.down = 0) with hd | hd
 case' inr =>
  obtain ⟨qo, qp, qf, ql, qd⟩ := q
  simp only [Rq.v]
  refine Ctr.enter (n := 33) [.tmp 6, .tmp 7] [(0, _), (1, _), (2, _)] Tryz.func53 rfl rfl rfl (lb rfl) Tryz.call53 ⟨rfl, rfl, rfl, trivial⟩ ?_
  intro cx fin fin0
  refine aG ?_
  repeat (first | refine gx ?_ | refine gN fun _ => ?_ | refine gB fun _ => ?_ | fail)
  refine aC (o := hI) (h := ?_) (hro := RoIn.own 1 rfl)
  rintro _ _ ⟨rfl, rfl⟩
  refine aG ?_
  repeat (first | refine gh hin ?_ | refine gN fun _ => ?_ | refine gB fun _ => ?_ | fail)
  refine aC (o := hR) (h := ?_) (hro := RoIn.own 1 rfl)
  rintro _ _ ⟨rfl, rfl⟩
  refine aG ?_
  repeat (first | refine gh (gc2 hin hd) ?_ | refine gN fun _ => ?_ | refine gB fun _ => ?_ | fail)
  refine W.groupV [1] rfl ?_
  refine W.ret (fin _ _ (FinOk.first 1 (.tmp rfl (.tmp rfl .nil)) rfl ?_))
  rw [if_neg (fun h => h hin), if_pos hd]
  exact ⟨_, rfl, rfl, hpa⟩
 obtain ⟨j, rfl⟩ : ∃ j : Nat, i = (j : Int) := ⟨i.toNat, by have := hin.1; omega⟩
 have hj : j < p.l.length := by have := hin.2; omega
 obtain ⟨D, ac, cc, bd, ba, bs, al, cl, bl, la, ca, bts, bps, bfs, bks, Ho, Ht, Hp, Hf, Hk, Hd, Hc, rfl, hT, hD, hDC, hK⟩ := h
 obtain ⟨bt, bf, bk, bx, ox, lx, ex, frx, o1, o2, o3, rfl, rfl, l0, -⟩ := hT.own_at hj
 obtain ⟨bt', bp, T1, Ti, T2, P1, Pi, P2, c1, c2, rfl, rfl, ht, hp, hback⟩ := hT.cut hj
 rw [o1] at c1
 cases c1
 obtain ⟨x, hx1, hx2, hte⟩ := hi.at hj
 have hS := Submit_spec p.c.dp.toNat (p.tn j).t hte.ti (hid hin) bt bp Ti ht Pi hp q hu hl hoi hop (fun h => check_ok h hu) aq cq rq hrq p.now
 generalize (p.tn j).t.submit p.c.dp.toNat q p.now = out at *
 obtain ⟨qo, qp, qf, ql, qd⟩ := q
 simp only [Rq.v] at *
 refine Ctr.enter (n := 33) [.tmp 6, .tmp 7] [(0, _), (1, _), (2, _)] Tryz.func53 rfl rfl rfl (lb rfl) Tryz.call53 ⟨rfl, rfl, rfl, trivial⟩ ?_
 intro cx fin fin0
 refine aG ?_
 repeat (first | refine gx ?_ | refine gN fun _ => ?_ | refine gB fun _ => ?_ | fail)
 refine aC (o := hI) (h := ?_) (hro := RoIn.own 1 rfl)
 rintro _ _ ⟨rfl, rfl⟩
 refine aG ?_
 repeat (first | refine gh hin ?_ | refine gN fun _ => ?_ | refine gB fun _ => ?_ | fail)
 refine aC (o := hR) (h := ?_) (hro := RoIn.own 1 rfl)
 rintro _ _ ⟨rfl, rfl⟩
 refine aG ?_
 repeat (first | refine gh (gc2 hin hd) ?_ | refine gN fun _ => ?_ | refine gB fun _ => ?_ | fail)
 refine W.order [1, 0] rfl ?_
 refine splT rfl ?_
 refine aG ?_
 refine W.drawH tab_ok 16 [.b false, .b false, .b false, .b false, .b false, .b false, .b false, .b false, .b false, .b false, .b false, .b false, .b false, .b true, .b false, .b false] [3,6] follows (by decide +kernel) (by decide +kernel) rfl (by decide) rfl ?_
 intro _
 refine dG ?_
 refine gdx ?_
 refine dV (OpVal.ixSl tab_ok rfl rfl rfl rfl rfl hj) ?_
 refine dV (OpVal.load tab_ok rfl (show At _ _ bx (.cells lx.toArray ex frx) from .inr (by simp)) l0) ?_
 refine gdx ?_
 refine dC (o := hS) (h := ?_) (hro := RoIn.all (fun q hq => by simp [hq]))
 rintro _ _ ⟨Ti', Pi', rfl, rfl, ht', hp'⟩
 refine dG ?_
 refine gdx ?_
 refine WD.nil (W.dropNil (aG ?_))
 repeat (first | refine gx ?_ | refine gN fun _ => ?_ | refine gB fun _ => ?_ | fail)
 refine W.groupV [2, 2, 2, 0, 1, 1, 0, 0, 0] rfl ?_
 refine W.ret (fin _ _ (FinOk.first 1 (.tmp rfl (.tmp rfl .nil)) rfl ?_))
 rw [if_neg (fun h => h hin), if_neg (fun h => h hd)]
 refine ⟨_, rfl, rfl, D, ac, cc, bd, ba, bs, _, cl, bl, la, ca, bts, bps, bfs, bks, _, _, _, Hf, Hk, Hd, Hc, ?_, hback _ Ti' Pi' ht' hp', hD, hDC.setT hj _, hK.setT _ _⟩
 simp [plCells, Pl.setT]
theorem POut_spec (p : Pl) (b : Nat) (H : HL) (h : PlAt p b H) (i : Int) : Ctr Tryz.prog 43 [.pointer (some ⟨b, 0, none⟩), .int .i64 i] [H] []
  (fun v L' => (¬ p.in_ i ∧ v = .slice none 0 0 ∧ L' = [H]) ∨ (p.in_ i ∧ ∃ (los : List Ro) (a : Option Addr) (c : Nat) (H' Ho D : HL), v = .slice a los.length c ∧ L' = [H', Ho] ∧ PlAt (p.setT i (p.tn i).t.taken) b H' ∧ los.map Ro.r = (p.tn i).t.out ∧ RoSl 11 (los.flatMap Ro.l) a los.length Ho ∧ (∀ q ∈ D, q ∈ H') ∧ (∀ o ∈ los, ∃ r, RoSl 1 (u8s o.r.data) o.a o.n r ∧ o.r.data.length = o.n ∧ ∀ q ∈ r, q ∈ D))) := by
 have hI := PIn_spec p b H h i
 rcases Classical.em (p.in_ i) with hin | hin
 case' inr =>
  refine Ctr.enter (n := 18) [.tmp 4] [(0, _), (1, _)] Tryz.func43 rfl rfl rfl (lb rfl) Tryz.call43 ⟨rfl, rfl, trivial⟩ ?_
  intro cx fin fin0
  refine aG ?_
  repeat (first | refine gx ?_ | refine gN fun _ => ?_ | refine gB fun _ => ?_ | fail)
  refine aC (o := hI) (h := ?_) (hro := RoIn.own 0 rfl)
  rintro _ _ ⟨rfl, rfl⟩
  refine aG ?_
  repeat (first | refine gh hin ?_ | refine gN fun _ => ?_ | refine gB fun _ => ?_ | fail)
  refine W.ret (fin _ _ (FinOk.first 1 (.tmp rfl .nil) rfl ?_))
  exact .inl ⟨hin, rfl, rfl⟩
 obtain ⟨j, rfl⟩ : ∃ j : Nat, i = (j : Int) := ⟨i.toNat, by have := hin.1; omega⟩
 have hj : j < p.l.length := by have := hin.2; omega
 obtain ⟨D, ac, cc, bd, ba, bs, al, cl, bl, la, ca, bts, bps, bfs, bks, Ho, Ht, Hp, Hf, Hk, Hd, Hc, rfl, hT, hD, hDC, hK⟩ := h
 obtain ⟨bt, bf, bk, bx, ox, lx, ex, frx, o1, o2, o3, rfl, rfl, l0, -⟩ := hT.own_at hj
 obtain ⟨bt', bp, T1, Ti, T2, P1, Pi, P2, c1, c2, rfl, rfl, ht, hp, hback⟩ := hT.cut hj
 rw [o1] at c1
 cases c1
 have hS := Out_spec p.c.dp.toNat (p.tn j).t bt bp Ti ht
 refine Ctr.enter (n := 18) [.tmp 4] [(0, _), (1, _)] Tryz.func43 rfl rfl rfl (lb rfl) Tryz.call43 ⟨rfl, rfl, trivial⟩ ?_
 intro cx fin fin0
 refine aG ?_
 repeat (first | refine gx ?_ | refine gN fun _ => ?_ | refine gB fun _ => ?_ | fail)
 refine aC (o := hI) (h := ?_) (hro := RoIn.own 0 rfl)
 rintro _ _ ⟨rfl, rfl⟩
 refine aG ?_
 repeat (first | refine gh hin ?_ | refine gN fun _ => ?_ | refine gB fun _ => ?_ | fail)
 refine splT rfl ?_
 refine aG ?_
 repeat (first | refine gx ?_ | refine gN fun _ => ?_ | refine gB fun _ => ?_ | fail)
 refine aV (OpVal.ixSl tab_ok rfl rfl rfl rfl rfl hj) ?_
 refine aV (OpVal.load tab_ok rfl (at_own 1 rfl) l0) ?_
 repeat (first | refine gx ?_ | refine gN fun _ => ?_ | refine gB fun _ => ?_ | fail)
 refine aC (o := hS) (h := ?_)
 rintro _ _ ⟨los, a, c, Ti', Hn, D2, rfl, rfl, ht', hlo, hro, hsub, hll⟩
 refine aG ?_
 repeat (first | refine gx ?_ | refine gN fun _ => ?_ | refine gB fun _ => ?_ | fail)
 refine W.groupV [2, 2, 2, 0, 1, 1, 1, 1, 1] rfl ?_
 refine W.ret (fin _ _ (FinOk.first 2 (.tmp rfl .nil) rfl ?_))
 refine .inr ⟨hin, los, a, c, _, Hn, D2, rfl, rfl, ⟨D, ac, cc, bd, ba, bs, _, cl, bl, la, ca, bts, bps, bfs, bks, _, _, _, Hf, Hk, Hd, Hc, ?_, hback _ Ti' Pi ht' hp, hD, hDC.setT hj _, hK.setT _ _⟩, hlo, hro, fun q hq => by simp [hsub q hq], hll⟩
 simp [plCells, Pl.setT]
theorem PCount_spec (p : Pl) (b : Nat) (H : HL) (h : PlAt p b H) (i : Int) : Ctr Tryz.prog 45 [.pointer (some ⟨b, 0, none⟩), .int .i64 i] [] H (fun v L' => v = (if p.in_ i then (p.tn i).t.c else C6.none).v ∧ L' = []) := by
 have hI := PIn_spec p b H h i
 rcases Classical.em (p.in_ i) with hin | hin
 case' inr =>
  rw [if_neg hin]
  refine Ctr.enter (n := 19) [.cell 4 57] [(0, _), (1, _)] Tryz.func45 rfl rfl rfl (lb rfl) Tryz.call45 ⟨rfl, rfl, trivial⟩ ?_
  intro cx fin fin0
  refine aG ?_
  repeat (first | refine gx ?_ | refine gN fun _ => ?_ | refine gB fun _ => ?_ | fail)
  refine aC (o := hI) (h := ?_) (hro := RoIn.same)
  rintro _ _ ⟨rfl, rfl⟩
  refine aG ?_
  repeat (first | refine gh hin ?_ | refine gN fun _ => ?_ | refine gB fun _ => ?_ | fail)
  refine aBu (ps := []) ?_
  repeat (first | refine gx ?_ | refine gN fun _ => ?_ | refine gB fun _ => ?_ | fail)
  refine W.order [0] rfl ?_
  refine W.ret (fin _ _ (FinOk.first 0 (aRc .nil) rfl ?_))
  exact ⟨rfl, rfl⟩
 rw [if_pos hin]
 obtain ⟨j, rfl⟩ : ∃ j : Nat, i = (j : Int) := ⟨i.toNat, by have := hin.1; omega⟩
 have hj : j < p.l.length := by have := hin.2; omega
 obtain ⟨D, ac, cc, bd, ba, bs, al, cl, bl, la, ca, bts, bps, bfs, bks, Ho, Ht, Hp, Hf, Hk, Hd, Hc, rfl, hT, hD, hDC, hK⟩ := h
 obtain ⟨bt, bf, bk, bx, ox, lx, ex, frx, o1, o2, o3, rfl, rfl, l0, -⟩ := hT.own_at hj
 obtain ⟨bt', bp, T1, Ti, T2, P1, Pi, P2, c1, c2, rfl, rfl, ht, hp, hback⟩ := hT.cut hj
 rw [o1] at c1
 cases c1
 have hS := Count_spec p.c.dp.toNat (p.tn j).t bt bp Ti ht
 generalize (p.tn j).t.c = cn at *
 refine Ctr.enter (n := 19) [.cell 4 57] [(0, _), (1, _)] Tryz.func45 rfl rfl rfl (lb rfl) Tryz.call45 ⟨rfl, rfl, trivial⟩ ?_
 intro cx fin fin0
 refine aG ?_
 repeat (first | refine gx ?_ | refine gN fun _ => ?_ | refine gB fun _ => ?_ | fail)
 refine aC (o := hI) (h := ?_) (hro := RoIn.same)
 rintro _ _ ⟨rfl, rfl⟩
 refine aG ?_
 repeat (first | refine gh hin ?_ | refine gN fun _ => ?_ | refine gB fun _ => ?_ | fail)
 repeat (first | refine gx ?_ | refine gN fun _ => ?_ | refine gB fun _ => ?_ | fail)
 refine aV (OpVal.ixSl tab_ok rfl rfl rfl rfl rfl hj) ?_
 refine aV (OpVal.load tab_ok rfl (show At _ _ bx (.cells lx.toArray ex frx) from .inr (by simp)) l0) ?_
 repeat (first | refine gx ?_ | refine gN fun _ => ?_ | refine gB fun _ => ?_ | fail)
 refine aC (o := hS) (h := ?_) (hro := RoIn.all (fun q hq => by simp [hq]))
 rintro _ _ ⟨rfl, rfl⟩
 refine aG ?_
 repeat (first | refine gx ?_ | refine gN fun _ => ?_ | refine gB fun _ => ?_ | fail)
 refine W.order [0] rfl ?_
 refine W.ret (fin _ _ (FinOk.first 0 (aRc .nil) rfl ?_))
 exact ⟨rfl, rfl⟩
theorem PWaits_spec (p : Pl) (b : Nat) (H : HL) (h : PlAt p b H) (i : Int) : Ctr Tryz.prog 44 [.pointer (some ⟨b, 0, none⟩), .int .i64 i] [] H (fun v L' => v = .int .i64 (if p.in_ i then ((p.tn i).t.js.length : Int) else 0) ∧ L' = []) := by
 have hI := PIn_spec p b H h i
 rcases Classical.em (p.in_ i) with hin | hin
 case' inr =>
  rw [if_neg hin]
  refine Ctr.enter (n := 18) [.tmp 4] [(0, _), (1, _)] Tryz.func44 rfl rfl rfl (lb rfl) Tryz.call44 ⟨rfl, rfl, trivial⟩ ?_
  intro cx fin fin0
  refine aG ?_
  repeat (first | refine gx ?_ | refine gN fun _ => ?_ | refine gB fun _ => ?_ | fail)
  refine aC (o := hI) (h := ?_) (hro := RoIn.same)
  rintro _ _ ⟨rfl, rfl⟩
  refine aG ?_
  repeat (first | refine gh hin ?_ | refine gN fun _ => ?_ | refine gB fun _ => ?_ | fail)
  refine W.ret (fin _ _ (FinOk.first 0 (.tmp rfl .nil) rfl ?_))
  exact ⟨rfl, rfl⟩
 rw [if_pos hin]
 obtain ⟨j, rfl⟩ : ∃ j : Nat, i = (j : Int) := ⟨i.toNat, by have := hin.1; omega⟩
 have hj : j < p.l.length := by have := hin.2; omega
 obtain ⟨D, ac, cc, bd, ba, bs, al, cl, bl, la, ca, bts, bps, bfs, bks, Ho, Ht, Hp, Hf, Hk, Hd, Hc, rfl, hT, hD, hDC, hK⟩ := h
 obtain ⟨bt, bf, bk, bx, ox, lx, ex, frx, o1, o2, o3, rfl, rfl, l0, -⟩ := hT.own_at hj
 obtain ⟨bt', bp, T1, Ti, T2, P1, Pi, P2, c1, c2, rfl, rfl, ht, hp, hback⟩ := hT.cut hj
 rw [o1] at c1
 cases c1
 have hS := Waits_spec p.c.dp.toNat (p.tn j).t bt bp Ti ht
 refine Ctr.enter (n := 18) [.tmp 4] [(0, _), (1, _)] Tryz.func44 rfl rfl rfl (lb rfl) Tryz.call44 ⟨rfl, rfl, trivial⟩ ?_
 intro cx fin fin0
 refine aG ?_
 repeat (first | refine gx ?_ | refine gN fun _ => ?_ | refine gB fun _ => ?_ | fail)
 refine aC (o := hI) (h := ?_) (hro := RoIn.same)
 rintro _ _ ⟨rfl, rfl⟩
 refine aG ?_
 repeat (first | refine gh hin ?_ | refine gN fun _ => ?_ | refine gB fun _ => ?_ | fail)
 repeat (first | refine gx ?_ | refine gN fun _ => ?_ | refine gB fun _ => ?_ | fail)
 refine aV (OpVal.ixSl tab_ok rfl rfl rfl rfl rfl hj) ?_
 refine aV (OpVal.load tab_ok rfl (show At _ _ bx (.cells lx.toArray ex frx) from .inr (by simp)) l0) ?_
 repeat (first | refine gx ?_ | refine gN fun _ => ?_ | refine gB fun _ => ?_ | fail)
 refine aC (o := hS) (h := ?_) (hro := RoIn.all (fun q hq => by simp [hq]))
 rintro _ _ ⟨rfl, rfl⟩
 refine aG ?_
 repeat (first | refine gx ?_ | refine gN fun _ => ?_ | refine gB fun _ => ?_ | fail)
 refine W.ret (fin _ _ (FinOk.first 0 (.tmp rfl .nil) rfl ?_))
 exact ⟨rfl, rfl⟩
def emptyN (p : Pt) : Int := if p.empty then 0 else 1
theorem emptyN_ok (p : Pt) : 0 ≤ emptyN p ∧ emptyN p ≤ 64 := by unfold emptyN; split <;> decide
theorem Empty1_spec (p : Pt) (b : Nat) (H : HL) (hp : PtAt p b H) (hpo : p.Ok) : Ctr Tryz.prog 151 [.pointer (some ⟨b, 0, none⟩)] [] H (fun v L' => v = .int .i64 (emptyN p) ∧ L' = []) := by
 have hE := PEmpty_spec p hpo b H hp
 unfold emptyN
 generalize p.empty = q at *
 refine Ctr.enter (n := 5) [.tmp 2] [(0, _)] Tryz.func151 rfl rfl rfl (lb rfl) Tryz.call151 ⟨rfl, trivial⟩ ?_
 intro cx fin fin0
 refine aG ?_
 refine aC (o := hE) (h := ?_) (hro := RoIn.same)
 rintro _ _ ⟨rfl, rfl⟩
 refine aG ?_
 cases q with
 | true =>
  repeat (first | refine gx ?_ | refine gN fun _ => ?_ | refine gB fun _ => ?_ | fail)
  refine W.ret (fin _ _ (FinOk.first 0 (.tmp rfl .nil) rfl ?_))
  exact ⟨rfl, rfl⟩
 | false =>
  repeat (first | refine gx ?_ | refine gN fun _ => ?_ | refine gB fun _ => ?_ | fail)
  refine W.ret (fin _ _ (FinOk.first 0 (.tmp rfl .nil) rfl ?_))
  exact ⟨rfl, rfl⟩
theorem AEmpty_spec (ps : List Pt) (hok : ∀ p ∈ ps, p.Ok) (hn : ps.length ≤ 1000) (b : Nat) (H : HL) (ha : ArAt ps b H) :
  Ctr Tryz.prog 92 [.pointer (some ⟨b, 0, none⟩)] [] H (fun v L' => v = .bool (decide (tot emptyN ps = 0)) ∧ L' = []) := by
 have hL := ALen_spec ps b H ha
 have hS := sum_spec 151 emptyN Empty1_spec (fun p _ => emptyN_ok p) ps hok hn b H ha ps.length (Nat.le_refl _)
 rw [List.take_length] at hS
 refine Ctr.enter (n := 8) [.tmp 2] [(0, _)] Tryz.func92 rfl rfl rfl (lb rfl) Tryz.call92 ⟨rfl, trivial⟩ ?_
 intro cx fin fin0
 refine aG ?_
 refine aC (o := hL) (h := ?_)
 rintro _ _ ⟨rfl, rfl⟩
 refine aG ?_
 refine aC (o := hS) (h := ?_)
 rintro _ _ ⟨rfl, rfl⟩
 refine aG ?_
 repeat (first | refine gx ?_ | refine gN fun _ => ?_ | refine gB fun _ => ?_ | fail)
 refine W.ret (fin _ _ (FinOk.first 0 (.tmp rfl .nil) rfl ?_))
 exact ⟨rfl, rfl⟩
def Pl.empty (p : Pl) : Bool := decide (tot emptyN (p.l.map fun e => e.t.p) = 0)
theorem PEmptyP_spec (p : Pl) (hi : p.Inv) (b : Nat) (H : HL) (h : PlAt p b H) : Ctr Tryz.prog 42 [.pointer (some ⟨b, 0, none⟩)] [] H (fun v L' => v = .bool p.empty ∧ L' = []) := by
 obtain ⟨D, ac, cc, bd, ba, bs, al, cl, bl, la, ca, bts, bps, bfs, bks, Ho, Ht, Hp, Hf, Hk, Hd, Hc, rfl, hT, hD, hDC, hK⟩ := h
 obtain ⟨Hc2, rfl, -⟩ := hK.cs
 have hln : (p.l.map fun e => e.t.p).length = p.l.length := List.length_map _
 have hE := AEmpty_spec (p.l.map fun e => e.t.p) (fun q hq => by
  obtain ⟨e, he, rfl⟩ := List.mem_map.1 hq
  obtain ⟨i, hi2, rfl⟩ := List.getElem_of_mem he
  have h1 := hi.len
  exact (hi.te i _ _ (List.getElem?_eq_getElem hi2) (List.getElem?_eq_getElem (by omega))).ti.mi.inv.ok) (by rw [hln]; have := hK.n; omega) ba
  ((ba, .cells #[.slice (some ⟨bl, 0, none⟩) p.l.length ca] 241 (0, 0)) :: (bl, .cells (List.toArray la) 173 (0, 0)) :: Hp)
  ⟨bps, bl, la, ca, Hp, by rw [hln], by rw [hln]; exact hK.ar.1, by rw [hln]; exact hK.ar.2, PtsAt.piles.2 hT.ps⟩
 unfold Pl.empty
 refine Ctr.enter (n := 8) [.tmp 2] [(0, _)] Tryz.func42 rfl rfl rfl (lb rfl) Tryz.call42 ⟨rfl, trivial⟩ ?_
 intro cx fin fin0
 refine aG ?_
 repeat (first | refine gx ?_ | refine gN fun _ => ?_ | refine gB fun _ => ?_ | fail)
 refine aC (o := hE) (h := ?_) (hro := RoIn.all (fun q hq => (List.mem_cons.1 hq).elim (fun h => by subst h; simp [arCells]) (fun hq => (List.mem_cons.1 hq).elim (fun h => by subst h; simp [arCells]) (fun h => by simp [h]))))
 rintro _ _ ⟨rfl, rfl⟩
 refine aG ?_
 repeat (first | refine gx ?_ | refine gN fun _ => ?_ | refine gB fun _ => ?_ | fail)
 refine W.ret (fin _ _ (FinOk.first 0 (.tmp rfl .nil) rfl ?_))
 exact ⟨rfl, rfl⟩
end Go.Proofs.YtfpghdcjdnifcaaGreat
namespace Go.Proofs.YtfpghdcjdnifcaaGreat
open Go Go.Sl Go.IntWalk
set_option maxHeartbeats 8000000
set_option maxRecDepth 20000
set_option linter.unusedVariables false
structure Bl where
 a : Option Addr
 cap : Nat
 xs : List Bool
def Bl.v (b : Bl) : Value := .slice b.a b.xs.length b.cap
def BitsAt (bs : List Bl) (a : Option Addr) (r : HL) : Prop := ∃ r0, RoSl 1 (bs.flatMap fun b => [b.v]) a bs.length r0 ∧ (∀ q ∈ r0, q ∈ r) ∧ ∀ b ∈ bs, ∃ rb, RoSl 1 (bls b.xs) b.a b.xs.length rb ∧ (∀ q ∈ rb, q ∈ r) ∧ b.xs.length ≤ 140737488351232
theorem BitsAt.nil : BitsAt [] none [] := ⟨[], ⟨rfl, .inl ⟨rfl, rfl⟩⟩, fun _ h => (by cases h), fun _ h => (by cases h)⟩
theorem PlOf_spec (bs : List Bl) (a : Option Addr) (cap : Nat) (r : HL) (h : BitsAt bs a r) (i : Nat) :
  Ctr Tryz.prog 91 [.slice a bs.length cap, .int .i64 (i : Int)] [] r (fun v L' => ∃ b H, v = .pointer (some ⟨b, 0, none⟩) ∧ L' = [H] ∧ StAt ((bs.map Bl.xs).getD i []) b H) := by
 obtain ⟨r0, hr0, hs0, hall⟩ := h
 rcases Nat.lt_or_ge i bs.length with hlt | hge
 ·
  have hz : ¬ (i : Int) ≥ (bs.length : Int) := by omega
  obtain ⟨bx, ox, lx, ex, frx, rfl, rfl, -, hld⟩ := RoSl.at (f := fun b : Bl => [b.v]) (m := 1) (fun _ => rfl) hr0 hlt
  have l0 : lx[ox + i * 1]? = some (bs[i]).v := hld 0 (by decide)
  obtain ⟨rb, h1, h2, h3⟩ := hall _ (List.getElem_mem hlt)
  have hN := SNew_spec (bs[i]).xs h3 (bs[i]).a (bs[i]).cap rb h1
  have hg : (bs.map Bl.xs).getD i [] = (bs[i]).xs := by simp [List.getD_eq_getElem?_getD, hlt]
  rw [hg]
  generalize bs[i] = x at *
  simp only [Bl.v] at l0
  refine Ctr.enter (n := 15) [.tmp 4] [(0, _), (1, _)] Tryz.func91 rfl rfl rfl (lb rfl) Tryz.call91 ⟨rfl, rfl, trivial⟩ ?_
  intro cx fin fin0
  refine aG ?_
  repeat (first | refine gh hz ?_ | refine gN fun _ => ?_ | refine gB fun _ => ?_ | fail)
  refine aV (OpVal.ixSl tab_ok rfl rfl rfl rfl rfl hlt) ?_
  refine aV (OpVal.load tab_ok rfl (.inr (hs0 _ (List.mem_singleton.2 rfl))) l0) ?_
  repeat (first | refine gx ?_ | refine gN fun _ => ?_ | refine gB fun _ => ?_ | fail)
  refine aC (o := hN) (h := ?_) (hro := RoIn.all h2)
  rintro _ _ ⟨b, H, rfl, rfl, hst⟩
  refine aG ?_
  repeat (first | refine gx ?_ | refine gN fun _ => ?_ | refine gB fun _ => ?_ | fail)
  refine W.ret (fin _ _ (FinOk.first 1 (.tmp rfl .nil) rfl ?_))
  exact ⟨b, H, rfl, rfl, hst⟩
 ·
  have hz : (i : Int) ≥ (bs.length : Int) := by omega
  have hg : (bs.map Bl.xs).getD i [] = [] := by rw [List.getD_eq_getElem?_getD, List.getElem?_eq_none (by simpa using hge)]; rfl
  rw [hg]
  have hN := SNew_spec [] (by decide) none 0 [] ⟨rfl, .inl ⟨rfl, rfl⟩⟩
  refine Ctr.enter (n := 15) [.tmp 4] [(0, _), (1, _)] Tryz.func91 rfl rfl rfl (lb rfl) Tryz.call91 ⟨rfl, rfl, trivial⟩ ?_
  intro cx fin fin0
  refine aG ?_
  repeat (first | refine gh hz ?_ | refine gN fun _ => ?_ | refine gB fun _ => ?_ | fail)
  refine aC (o := hN) (h := ?_) (hro := RoIn.nil)
  rintro _ _ ⟨b, H, rfl, rfl, hst⟩
  refine aG ?_
  repeat (first | refine gx ?_ | refine gN fun _ => ?_ | refine gB fun _ => ?_ | fail)
  refine W.ret (fin _ _ (FinOk.first 1 (.tmp rfl .nil) rfl ?_))
  exact ⟨b, H, rfl, rfl, hst⟩
theorem new_len (c : Cf) (fs ks : List (List Bool)) : (Pl.new c fs ks).l.length = c.ps.length := by simp [Pl.new]
theorem new_at (c : Cf) (fs ks : List (List Bool)) (i : Nat) (h : i < c.ps.length) : (Pl.new c fs ks).l[i]? = some (teNew fs ks i c.ps[i]) := by simp [Pl.new, h]
theorem Cf.Ok.part {c : Cf} (h : c.Ok) {i : Nat} {x : Cp} (hx : c.ps[i]? = some x) : x.Ok c.se := h.ps x (List.mem_of_getElem? hx)
theorem new_pinv {c : Cf} (h : c.Ok) (hin : c.In) (fs ks : List (List Bool)) : (Pl.new c fs ks).Inv := by
 refine ⟨h, hin, new_len c fs ks, fun i e x he hx => ?_, ⟨by show (1 : Int) ≤ 1; decide, by show (1 : Int) ≤ 1073741824; decide⟩, ⟨by show (0 : Int) ≤ 0; decide, by show (0 : Int) ≤ 2; decide⟩, by show (0 : Int) ≤ 0; decide⟩
 have hx' : c.ps[i]? = some x := hx
 obtain ⟨hi, hxi⟩ := List.getElem?_eq_some_iff.1 hx'
 rw [new_at c fs ks i hi, hxi] at he
 cases he
 have ho := h.part hx'
 have h1 := ho.1
 have h2 := ho.2.1
 exact ⟨new_inv _ _ (by omega) (by omega) _, rfl, by show (((List.replicate x.q.toNat Fr.zero).length : Nat) : Int) = x.q; rw [List.length_replicate]; omega, Dv.new_ok (by omega) (by omega), by show (((List.replicate (2 * x.p).toNat zcell).length : Nat) : Int) = _; rw [List.length_replicate]; omega⟩
def dev0 (c : Cf) : Dv := ⟨(Dv.new c.se.toNat).lasts, (Dv.new c.se.toNat).later, supB 1 c⟩
theorem dev0_cut {c : Cf} (h : c.Ok) (fs ks : List (List Bool)) : DCut (Pl.new c fs ks) (dev0 c) := by
 have hs := h.se
 have hk := Dv.new_ok (n := c.se.toNat) (by omega) (by omega)
 have hl := h.len
 refine ⟨⟨hk.len, hk.n, hk.lu, hk.tu, sealB_ok (supBody_ok 1 c), ?_⟩, ?_, rfl, fun i e x he hx k hkk => ?_⟩
 ·
  show (supB 1 c).length ≤ 100000
  unfold supB
  rw [sealB_len, supBody_len]
  omega
 ·
  show (((List.replicate c.se.toNat zcell).length : Nat) : Int) = c.se
  rw [List.length_replicate]; omega
 ·
  have hx' : c.ps[i]? = some x := hx
  obtain ⟨hi, hxi⟩ := List.getElem?_eq_some_iff.1 hx'
  rw [new_at c fs ks i hi, hxi] at he
  cases he
  have ho := h.part hx'
  unfold Cp.Ok Cp.to at ho
  show (List.replicate c.se.toNat zcell)[x.b.toNat + k]? = (List.replicate (2 * x.p).toNat zcell)[k]? ∧ (List.replicate c.se.toNat ([] : List Int))[x.b.toNat + k]? = (List.replicate (2 * x.p).toNat [])[k]?
  rw [List.getElem?_replicate, List.getElem?_replicate, List.getElem?_replicate, List.getElem?_replicate, if_pos (by omega), if_pos (by omega), if_pos (by omega), if_pos (by omega)]
  exact ⟨rfl, rfl⟩
theorem tot_made : ∀ (ls : List Int), (∀ n ∈ ls, 0 ≤ n) → tot flen (made ls) = ls.sum := by
 intro ls h
 unfold tot made
 have : ∀ (ls : List Int) (a : Int), (∀ n ∈ ls, 0 ≤ n) → (ls.map fun n => Pt.new n.toNat).foldl (fun a p => a + flen p) a = a + ls.sum := by
  intro ls
  induction ls with
  | nil => intro a _; simp
  | cons n ls ih =>
   intro a h
   have h0 := h n (List.mem_cons_self ..)
   rw [List.map_cons, List.foldl_cons, ih _ (fun m hm => h m (List.mem_cons_of_mem _ hm)), List.sum_cons]
   have : flen (Pt.new n.toNat) = n := by unfold flen Pt.new; simp only [List.length_replicate]; omega
   rw [this]
   omega
 rw [this ls 0 h]
 omega
theorem may_cut {c : Cf} (h : c.Ok) : MayCut (c.ps.map Cp.q) := by
 have hq : ∀ n ∈ c.ps.map Cp.q, 1 ≤ n ∧ n ≤ 64 := fun n hn => by
  obtain ⟨x, hx, rfl⟩ := List.mem_map.1 hn
  exact (h.ps x hx).1
 refine ⟨by rw [List.length_map]; exact h.len.1, by rw [List.length_map]; exact h.len.2, hq, ?_⟩
 rw [tot_made _ (fun n hn => by have := hq n hn; omega), h.sum]
 exact h.fr.2
def pairL (c : Cf) (bps : List Nat) (j : Nat) : List (Tn × Nat) := (List.range j).map fun i => (Tn.new (c.ps.getD i ⟨0, 0, 0⟩).q.toNat (c.ps.getD i ⟨0, 0, 0⟩).p, bps.getD i 0)
def bitL (fs : List (List Bool)) (j : Nat) : List (List Bool) := (List.range j).map fun i => fs.getD i []
theorem pairL_all (c : Cf) (fs ks : List (List Bool)) (bps : List Nat) (hb : bps.length = c.ps.length) : ((Pl.new c fs ks).l.map Te.t).zip bps = pairL c bps c.ps.length := by
 refine List.ext_getElem (by simp [pairL, Pl.new, hb]) fun i h1 h2 => ?_
 have hi : i < c.ps.length := by simpa [pairL] using h2
 simp [pairL, Pl.new, teNew, List.getD_eq_getElem?_getD, hi, hb]
theorem bitF_all (c : Cf) (fs ks : List (List Bool)) : (Pl.new c fs ks).l.map Te.fl = bitL fs c.ps.length := by
 refine List.ext_getElem (by simp [bitL, Pl.new]) fun i h1 h2 => ?_
 simp [bitL, Pl.new, teNew]
theorem bitK_all (c : Cf) (fs ks : List (List Bool)) : (Pl.new c fs ks).l.map Te.kp = bitL ks c.ps.length := by
 refine List.ext_getElem (by simp [bitL, Pl.new]) fun i h1 h2 => ?_
 simp [bitL, Pl.new, teNew]
theorem parts_all (c : Cf) (fs ks : List (List Bool)) : ((Pl.new c fs ks).l.map fun e => e.t.p) = made (c.ps.map Cp.q) := by
 refine List.ext_getElem (by simp [made, Pl.new]) fun i h1 h2 => ?_
 simp [made, Pl.new, teNew, Tn.new]
theorem owns_snoc {bts bfs bks : List Nat} {n : Nat} (h1 : bts.length = n) (h2 : bfs.length = n) (h3 : bks.length = n) (a b c : Nat) : Owns (bts ++ [a]) (bfs ++ [b]) (bks ++ [c]) = Owns bts bfs bks ++ ownL (a, b, c) := by
 unfold Owns
 rw [List.zip_append (by omega), List.zip_append (by simp; omega), List.flatMap_append]
 simp
theorem splA {P : Program} {n : Nat} {R : HL} {cx : Cx} {K : List Kont} {ρ : Env} {L M : List HL} {x y : Nat × Obj} {Z : HL} (h : L = (x :: y :: Z) :: M) (hk : W P n R cx K ρ ([x] :: [y] :: Z :: M)) : W P n R cx K ρ L := by
 subst h
 exact W.regroup (by simp) hk
theorem POpen_spec (c : Cf) (hin : c.In) (hps : c.ps.length ≤ 9223372036854775807) (a : Option Addr) (cap : Nat) (hcap : c.ps.length ≤ cap) (ro : HL) (hro : RoSl 3 (cps c.ps) a c.ps.length ro) (fs ks : List Bl) (af : Option Addr) (cf : Nat) (rf : HL) (hf : BitsAt fs af rf) (ak : Option Addr) (ck : Nat) (rk : HL) (hk : BitsAt ks ak rk) :
  Ctr Tryz.prog 37 [c.v a cap, .slice af fs.length cf, .slice ak ks.length ck] [] (ro ++ (rf ++ rk)) (fun v L' => (¬ c.Ok ∧ v = .tuple #[.pointer none, .int .i64 3] ∧ L' = []) ∨
   (c.Ok ∧ ∃ b H, v = .tuple #[.pointer (some ⟨b, 0, none⟩), .int .i64 0] ∧ L' = [H] ∧ PlAt (Pl.new c (fs.map Bl.xs) (ks.map Bl.xs)) b H)) := by
 have hW := SupWrite_spec 1 ⟨by decide, by decide⟩ c hin hps a cap hcap ro hro
 rcases Classical.em c.Ok with hok | hno
 case' inr =>
  have hW2 := hW.post (post' := fun v L' => v = .tuple #[.slice none 0 0, .int .i64 3] ∧ L' = []) (fun v L' h => h.elim (fun h => ⟨h.2.1, h.2.2⟩) (fun h => absurd h.1.2 hno))
  refine Ctr.enter (n := 117) [.tmp 6, .tmp 7] [(0, _), (1, _), (2, _)] Tryz.func37 rfl rfl rfl (lb rfl) Tryz.call37 ⟨rfl, rfl, rfl, trivial⟩ ?_
  intro cx fin fin0
  refine aG ?_
  repeat (first | refine gx ?_ | refine gN fun _ => ?_ | refine gB fun _ => ?_ | fail)
  refine aBu (ps := [_, _]) ?_
  repeat (first | refine gx ?_ | refine gN fun _ => ?_ | refine gB fun _ => ?_ | fail)
  refine aC (o := hW2) (h := ?_) (hro := RoIn.all (fun q hq => List.mem_append_left _ hq))
  rintro _ _ ⟨rfl, rfl⟩
  refine aG ?_
  repeat (first | refine gx ?_ | refine gN fun _ => ?_ | refine gB fun _ => ?_ | fail)
  refine W.order [] rfl ?_
  refine W.ret (fin _ _ (FinOk.first 0 (.tmp rfl (.tmp rfl .nil)) rfl ?_))
  exact .inl ⟨hno, rfl, rfl⟩
 have hW2 := hW.post (post' := fun v L' => ∃ a' cap' H, v = .tuple #[.slice a' (supB 1 c).length cap', .int .i64 0] ∧ L' = [H] ∧ Own 1 5 (u8s (supB 1 c)) a' (supB 1 c).length cap' H) (fun v L' h => h.elim (fun h => absurd ⟨⟨by decide, by decide⟩, hok⟩ h.1) (fun h => h.2))
 have hl := hok.len
 have hse := hok.se
 have hC := CClone_spec c hl.1 hl.2 a cap ro hro
 have hN := (DNew_spec c.se).post (post' := fun v L' => ∃ b H, v = .tuple #[.pointer (some ⟨b, 0, none⟩), .int .i64 0] ∧ L' = [H] ∧ DevAt (Dv.new c.se.toNat) b H) (fun v L' h => h.elim (fun h => absurd hse h.1) (fun h => h.2))
 have hdk := Dv.new_ok (n := c.se.toNat) (by omega) (by omega)
 have hhl : (supB 1 c).length ≤ 100000 := by unfold supB; rw [sealB_len, supBody_len]; omega
 have hSH := fun b H h => DSetHead_spec (Dv.new c.se.toNat) hdk b H h (supB 1 c) hhl
 have hSN := SNewS_spec c.ps.length hl.1 hl.2
 have hCut := fun a cap ro hro => (Cut_spec (c.ps.map Cp.q) a cap ro hro).post (post' := fun v L' => ∃ b H, v = .tuple #[.pointer (some ⟨b, 0, none⟩), .int .i64 0] ∧ L' = [H] ∧ ArAt (made (c.ps.map Cp.q)) b H) (fun v L' h => h.elim (fun h => absurd (may_cut hok) h.1) (fun h => h.2))
 rw [List.length_map] at hCut
 refine Ctr.enter (n := 117) [.tmp 6, .tmp 7] [(0, _), (1, _), (2, _)] Tryz.func37 rfl rfl rfl (lb rfl) Tryz.call37 ⟨rfl, rfl, rfl, trivial⟩ ?_
 intro cx fin fin0
 refine aG ?_
 repeat (first | refine gx ?_ | refine gN fun _ => ?_ | refine gB fun _ => ?_ | fail)
 rename_i b3
 refine aBu (ps := [_, _]) ?_
 repeat (first | refine gx ?_ | refine gN fun _ => ?_ | refine gB fun _ => ?_ | fail)
 refine aC (o := hW2) (h := ?_) (hro := RoIn.all (fun q hq => List.mem_append_left _ hq))
 rintro _ _ ⟨a1, c1, H1, rfl, rfl, ho1⟩
 refine aG ?_
 repeat (first | refine gx ?_ | refine gN fun _ => ?_ | refine gB fun _ => ?_ | fail)
 refine aC (o := hC) (h := ?_) (hro := RoIn.all (fun q hq => List.mem_append_left _ hq))
 rintro _ _ ⟨a2, c2, H2, rfl, rfl, ho2⟩
 refine aG ?_
 refine aBu (ps := [_, _]) ?_
 repeat (first | refine gx ?_ | refine gN fun _ => ?_ | refine gB fun _ => ?_ | fail)
 rename_i bp
 refine aC (o := hN) (h := ?_)
 rintro _ _ ⟨bd, Hd, rfl, rfl, hD⟩
 refine aG ?_
 repeat (first | refine gx ?_ | refine gN fun _ => ?_ | refine gB fun _ => ?_ | fail)
 refine aC (o := hSH bd Hd hD a1 c1 H1 (Own.roSl ho1)) (h := ?_) (hro := RoIn.own 2 rfl)
 rintro _ _ ⟨Hd, rfl, hD⟩
 refine aG ?_
 repeat (first | refine gx ?_ | refine gN fun _ => ?_ | refine gB fun _ => ?_ | fail)
 refine aC (o := hSN) (h := ?_)
 rintro _ _ ⟨bs, rfl, rfl⟩
 refine aG ?_
 repeat (first | refine gx ?_ | refine gN fun _ => ?_ | refine gB fun _ => ?_ | fail)
 refine W.order [2, 1, 0, 0, 1] rfl ?_
 refine W.nilChunk ?_
 refine aLp (fun k ρ1 L1 => ∃ (j : Nat) (qs : List Int) (aq : Option Addr) (cq : Nat) (Hq : HL), j ≤ c.ps.length ∧ k = c.ps.length - j ∧ qs = (c.ps.take j).map Cp.q ∧ Own 1 3 (ints qs) aq qs.length cq Hq ∧ ρ1 = [(58, .int .i64 (j : Int)), (57, .int .i64 (c.ps.length : Int)), (56, .slice a c.ps.length cap), (11, .slice aq qs.length cq), (10, .pointer (some ⟨bp, 0, none⟩)), (3, .pointer (some ⟨b3, 0, none⟩)), (1, .slice af fs.length cf), (2, .slice ak ks.length ck)] ∧ L1 = [Hq, [(bp, .cells #[.int .i64 c.fr, .int .i64 c.dp, .int .i64 c.se, .slice a2 c.ps.length c2, .pointer (some ⟨bd, 0, none⟩), .pointer none, .pointer (some ⟨bs, 0, none⟩), .slice none 0 0, .int .i64 0, .int .i64 1, .int .i64 0] 162 (0, 0))], Hd, [(bs, .cells #[.int .i64 (c.ps.length : Int)] 238 (0, 0))], H2, [(b3, .cells #[.int .i64 c.fr, .int .i64 c.dp, .int .i64 c.se, .slice a c.ps.length cap] 24 (0, 0))]]) (o := ⟨0, [], none, 0, [], Nat.zero_le _, rfl, rfl, Own.nil 1 _, rfl, rfl⟩) (h := ?_)
 rintro k ρ1 L1 ⟨j, qs, aq, cq, Hq, hj, rfl, hqs, hoq, rfl, rfl⟩
 refine aG ?_
 rcases Classical.em ((j : Int) < (c.ps.length : Int)) with hz | hz
 ·
  have hlt : j < c.ps.length := by omega
  obtain ⟨bx, ox, lx, ex, frx, rfl, rfl, hld⟩ := cps_at hro hlt
  have hnx : (c.ps.take (j + 1)).map Cp.q = qs ++ [(c.ps[j]).q] := by rw [List.take_succ_eq_append_getElem hlt, List.map_append, hqs]; rfl
  have hql : qs.length ≤ 16 := by rw [hqs, List.length_map, List.length_take]; omega
  generalize c.ps[j] = x at *
  repeat (first | refine gh hz ?_ | refine gN fun _ => ?_ | refine gB fun _ => ?_ | fail)
  refine aV (OpVal.ixSl tab_ok rfl rfl rfl rfl rfl hlt) ?_
  refine aV (OpVal.load tab_ok rfl rh hld) ?_
  repeat (first | refine gx ?_ | refine gN fun _ => ?_ | refine gB fun _ => ?_ | fail)
  refine aSl (ps := [_]) ?_
  intro bt
  refine aG ?_
  refine aAp (hoq) ?_
  rintro _ _ ⟨_, _, _, rfl, rfl, ho⟩
  refine aG ?_
  obtain ⟨q2, hq2⟩ : ∃ q2, q2 = qs ++ [x.q] := ⟨_, rfl⟩
  have e2 : ints qs ++ [.int .i64 x.q] = ints q2 := by rw [hq2]; simp [ints]
  have e3 : qs.length + 1 = q2.length := by rw [hq2, List.length_append]; rfl
  rw [e2, e3] at ho
  rw [e3]
  repeat (first | refine gh hz ?_ | refine gN fun _ => ?_ | refine gB fun _ => ?_ | fail)
  refine W.order [0, 2, 2, 2, 2, 2] rfl ?_
  refine aR (o := ⟨c.ps.length - (j + 1), by omega, j + 1, q2, _, _, _, by omega, rfl, by rw [hnx, hq2], ho, rfl, rfl⟩)
 obtain rfl : j = c.ps.length := by omega
 rw [List.take_length] at hqs
 subst hqs
 have hlm : (c.ps.map Cp.q).length = c.ps.length := List.length_map _
 rw [hlm] at hoq
 rw [hlm]
 repeat (first | refine gh hz ?_ | refine gN fun _ => ?_ | refine gB fun _ => ?_ | fail)
 refine aC (o := hCut aq cq Hq (Own.roSl hoq)) (h := ?_) (hro := RoIn.own 0 rfl)
 rintro _ _ ⟨ba, Ha, rfl, rfl, hA⟩
 refine aG ?_
 obtain ⟨bps, bl, la, ca, Hp, rfl, ha1, ha2, ha3⟩ := hA
 have hml : (made (c.ps.map Cp.q)).length = c.ps.length := by simp [made]
 rw [hml] at ha1 ha2
 have hbpl : bps.length = c.ps.length := by rw [ha3.len, hml]
 have hPart := fun (j : Nat) (hj : j < c.ps.length) => (Part_spec (made (c.ps.map Cp.q)) ba _ bps bl ca la Hp rfl (by rw [hml]; exact ha1) (by rw [hml]; exact ha2) ha3 (j : Int)).post (post' := fun v L' => v = .pointer (some ⟨bps.getD j 0, 0, none⟩) ∧ L' = []) (fun v L' h => ⟨by
  rw [h.1, if_pos (by rw [hml]; omega), Int.toNat_natCast, List.getD_eq_getElem?_getD, List.getElem?_eq_getElem (show j < bps.length by omega)]; rfl, h.2⟩)
 rw [hml] at hPart
 refine splA (by rw [hml]) ?_
 repeat (first | refine gx ?_ | refine gN fun _ => ?_ | refine gB fun _ => ?_ | fail)
 refine W.order [4, 0, 0, 0, 1, 1, 1, 1] rfl ?_
 refine W.nilChunk ?_
 refine W.nilChunk ?_
 refine W.nilChunk ?_
 refine W.nilChunk ?_
 have hOf := fun (j : Nat) => PlOf_spec fs af cf rf hf j
 have hOk := fun (j : Nat) => PlOf_spec ks ak ck rk hk j
 have hTN := fun (j : Nat) (hj : j < c.ps.length) bp => TNew_spec (c.ps[j]).q.toNat c.dp.toNat (by have := hok.dp; omega) (by have := hok.dp; omega) (c.ps[j]).p (hok.ps _ (List.getElem_mem hj)).2.1.1 (hok.ps _ (List.getElem_mem hj)).2.1.2 bp
 have hdp : ((c.dp.toNat : Nat) : Int) = c.dp := by have := hok.dp; omega
 rw [hdp] at hTN
 clear hCut hSN hSH hN hC hW2 hW
 refine aLp (fun k ρ1 L1 => ∃ (j : Nat) (bts bfs bks : List Nat) (al : Option Addr) (cl : Nat) (Ho Ht Hf Hk : HL), j ≤ c.ps.length ∧ k = c.ps.length - j ∧ Own 3 178 (Owns bts bfs bks) al j cl Ho ∧ Piles (fun (e : Tn × Nat) b H => TAt c.dp.toNat e.1 b e.2 H) (pairL c bps j) bts Ht ∧ Piles StAt (bitL (fs.map Bl.xs) j) bfs Hf ∧ Piles StAt (bitL (ks.map Bl.xs) j) bks Hk ∧ ρ1 = [(79, .int .i64 (j : Int)), (78, .int .i64 (c.ps.length : Int)), (77, .slice a c.ps.length cap), (10, .pointer (some ⟨bp, 0, none⟩)), (3, .pointer (some ⟨b3, 0, none⟩)), (1, .slice af fs.length cf), (2, .slice ak ks.length ck)] ∧ L1 = [Ho, Ht, Hf, Hk, [(bp, .cells #[.int .i64 c.fr, .int .i64 c.dp, .int .i64 c.se, .slice a2 c.ps.length c2, .pointer (some ⟨bd, 0, none⟩), .pointer (some ⟨ba, 0, none⟩), .pointer (some ⟨bs, 0, none⟩), .slice al j cl, .int .i64 0, .int .i64 1, .int .i64 0] 162 (0, 0))], [(ba, .cells #[.slice (some ⟨bl, 0, none⟩) c.ps.length ca] 241 (0, 0))], [(bl, .cells la.toArray 173 (0, 0))], Hp, Hd, [(bs, .cells #[.int .i64 (c.ps.length : Int)] 238 (0, 0))], H2, [(b3, .cells #[.int .i64 c.fr, .int .i64 c.dp, .int .i64 c.se, .slice a c.ps.length cap] 24 (0, 0))]]) (o := ⟨0, [], [], [], none, 0, [], [], [], [], Nat.zero_le _, rfl, Own.nil 3 _, ⟨rfl, rfl⟩, ⟨rfl, rfl⟩, ⟨rfl, rfl⟩, rfl, rfl⟩) (h := ?_)
 rintro k ρ1 L1 ⟨j, bts, bfs, bks, al, cl, Ho, Ht, Hf, Hk, hj, rfl, how, hts, hfs, hks, rfl, rfl⟩
 refine aG ?_
 rcases Classical.em ((j : Int) < (c.ps.length : Int)) with hz | hz
 ·
  have hlt : j < c.ps.length := by omega
  obtain ⟨bx, ox, lx, ex, frx, rfl, rfl, hld⟩ := cps_at hro hlt
  have hPj := hPart j hlt
  have hTj := hTN j hlt (bps.getD j 0)
  have hpr : pairL c bps (j + 1) = pairL c bps j ++ [(Tn.new (c.ps[j]).q.toNat (c.ps[j]).p, bps.getD j 0)] := by
   unfold pairL
   rw [List.range_succ, List.map_append]
   simp [List.getD_eq_getElem?_getD, hlt]
  generalize c.ps[j] = x at *
  repeat (first | refine gh hz ?_ | refine gN fun _ => ?_ | refine gB fun _ => ?_ | fail)
  refine aV (OpVal.ixSl tab_ok rfl rfl rfl rfl rfl hlt) ?_
  refine aV (OpVal.load tab_ok rfl rh hld) ?_
  repeat (first | refine gx ?_ | refine gN fun _ => ?_ | refine gB fun _ => ?_ | fail)
  refine W.drawH tab_ok 16 [.b false, .b false, .b false, .b false, .b false, .b false, .b false, .b false, .b false, .b false, .b true, .b false, .b false, .b false, .b false, .b false] [] follows (by decide +kernel) (by decide +kernel) rfl (by decide) rfl ?_
  intro _
  refine dG ?_
  refine gdx ?_
  refine dQ (o := hPj) (h := ?_) (hro := (fun q hq => (List.mem_cons.1 hq).elim (fun h => by subst h; simp) (fun hq => (List.mem_cons.1 hq).elim (fun h => by subst h; simp) (fun h => by simp [h]))))
  refine gdx ?_
  refine dC (o := hTj) (h := ?_)
  rintro _ _ ⟨bt, Hn, rfl, rfl, htn⟩
  refine dG ?_
  refine gdx ?_
  refine WD.nil (W.dropNil (aG ?_))
  repeat (first | refine gx ?_ | refine gN fun _ => ?_ | refine gB fun _ => ?_ | fail)
  refine W.drawH tab_ok 15 [.b false, .b false, .b false, .b false, .b false, .b false, .b false, .b false, .b true, .b false, .b false, .b true, .b false, .b true, .b true] [2] follows (by decide +kernel) (by decide +kernel) rfl (by decide) rfl ?_
  intro _
  refine dG ?_
  refine gdx ?_
  refine dC (o := hOf j) (h := ?_) (hro := RoIn.all (fun q hq => List.mem_append_right _ (List.mem_append_right _ (List.mem_append_left _ hq))))
  rintro _ _ ⟨bf, Hfn, rfl, rfl, hfn⟩
  refine dG ?_
  refine gdx ?_
  refine dC (o := hOk j) (h := ?_) (hro := RoIn.all (fun q hq => List.mem_append_right _ (List.mem_append_right _ (List.mem_append_right _ hq))))
  rintro _ _ ⟨bk, Hkn, rfl, rfl, hkn⟩
  refine dG ?_
  refine gdx ?_
  refine dV (OpVal.build (ps := [_, _, _]) tab_ok rfl rfl rfl rfl (by repeat (first | exact trivial | refine ⟨⟨_, _, _, rfl, rfl, rfl⟩, ?_⟩)) rfl) ?_
  refine dSl (ps := [_]) ?_
  intro bt9
  refine dG ?_
  refine dAp (how) ?_
  rintro _ _ ⟨_, _, _, rfl, rfl, ho⟩
  refine dG ?_
  refine gdx ?_
  refine WD.nil (W.dropNil (aG ?_))
  repeat (first | refine gx ?_ | refine gN fun _ => ?_ | refine gB fun _ => ?_ | fail)
  have hbl1 : bts.length = j := by rw [hts.len]; simp [pairL]
  have hbl2 : bfs.length = j := by rw [hfs.len]; simp [bitL]
  have hbl3 : bks.length = j := by rw [hks.len]; simp [bitL]
  have hts2 := hts.snoc (e := (Tn.new x.q.toNat x.p, bps.getD j 0)) htn
  have hfs2 := hfs.snoc hfn
  have hks2 := hks.snoc hkn
  rw [← hpr] at hts2
  have e1 : ∀ l : List (List Bool), bitL l j ++ [l.getD j []] = bitL l (j + 1) := fun l => by unfold bitL; rw [List.range_succ, List.map_append]; rfl
  rw [e1] at hfs2 hks2
  have e3 : Owns bts bfs bks ++ [.pointer (some ⟨bt, 0, none⟩), .pointer (some ⟨bf, 0, none⟩), .pointer (some ⟨bk, 0, none⟩)] = Owns (bts ++ [bt]) (bfs ++ [bf]) (bks ++ [bk]) := (owns_snoc hbl1 hbl2 hbl3 bt bf bk).symm
  rw [e3] at ho
  refine W.groupV [6, 4] rfl ?_
  refine W.groupV [6, 4] rfl ?_
  refine W.groupV [6, 4] rfl ?_
  refine W.order [3, 2, 1, 0, 2, 2, 2, 2, 2, 2, 2, 2] rfl ?_
  refine aR (o := ⟨c.ps.length - (j + 1), by omega, j + 1, _, _, _, _, _, _, _, _, _, by omega, rfl, ho, hts2, hfs2, hks2, rfl, rfl⟩)
 ·
  obtain rfl : j = c.ps.length := by omega
  repeat (first | refine gh hz ?_ | refine gN fun _ => ?_ | refine gB fun _ => ?_ | fail)
  refine W.groupV [4, 0, 0, 4, 0, 0, 2, 2, 0, 0, 0] rfl ?_
  refine W.ret (fin _ _ (FinOk.first 1 (.tmp rfl (.tmp rfl .nil)) rfl ?_))
  have hnl := new_len c (fs.map Bl.xs) (ks.map Bl.xs)
  refine .inr ⟨hok, bp, _, rfl, rfl, dev0 c, a2, c2, bd, ba, bs, al, cl, bl, la, ca, bts, bps, bfs, bks, Ho, Ht, Hp, Hf, Hk, Hd, arCells c.ps.length bs ba bl ca la ++ H2, ?_, ⟨?_, ?_, ?_, ?_, ?_⟩, hD, dev0_cut hok _ _, ⟨⟨H2, by rw [hnl], Own.roSl ho2, ?_⟩, ⟨by rw [hnl]; exact ha1, by rw [hnl]; exact ha2⟩, by rw [hnl]; exact hl.2⟩⟩
  ·
   unfold plCells
   rw [hnl]
   simp [arCells, Pl.new]
  · rw [hnl]; exact Own.roSl how
  · rw [pairL_all c _ _ bps hbpl]; exact hts
  · rw [parts_all]; exact PtsAt.piles.1 ha3
  · rw [bitF_all]; exact hfs
  · rw [bitK_all]; exact hks
  ·
   show c.ps.length ≤ c2
   rcases ho2.2 with ⟨_, h1, h2, _⟩ | ⟨_, _, _, _, h1, _⟩ <;> omega
end Go.Proofs.YtfpghdcjdnifcaaGreat
namespace Go.Proofs.YtfpghdcjdnifcaaGreat
open Go Go.Sl Go.IntWalk
set_option maxHeartbeats 8000000
set_option maxRecDepth 20000
set_option linter.unusedVariables false
structure CutOf (b n : Nat) (D d : Dv) : Prop where
 ln : d.lasts.length = n
 nl : d.later.length = n
 up : b + n ≤ D.lasts.length
 NL : D.later.length = D.lasts.length
 la : ∀ k, k < n → D.lasts[b + k]? = d.lasts[k]?
 lt : ∀ k, k < n → D.later[b + k]? = d.later[k]?
section
variable {b n : Nat} {D d : Dv}
theorem CutOf.last (h : CutOf b n D d) {k : Int} (hk : 0 ≤ k ∧ k < n) : D.last ((b : Int) + k) = d.last k := by
 unfold Dv.last
 rw [List.getD_eq_getElem?_getD, List.getD_eq_getElem?_getD, show ((b : Int) + k).toNat = b + k.toNat by omega, h.la k.toNat (by omega)]
theorem CutOf.late (h : CutOf b n D d) {k : Int} (hk : 0 ≤ k ∧ k < n) : D.late ((b : Int) + k) = d.late k := by
 unfold Dv.late
 rw [List.getD_eq_getElem?_getD, List.getD_eq_getElem?_getD, show ((b : Int) + k).toNat = b + k.toNat by omega, h.lt k.toNat (by omega)]
theorem CutOf.in_ (h : CutOf b n D d) {k : Int} (hk : 0 ≤ k ∧ k < n) : D.in_ ((b : Int) + k) ∧ d.in_ k := by
 have h1 := h.ln
 have h2 := h.up
 unfold Dv.in_
 omega
theorem CutOf.setLast (h : CutOf b n D d) {k : Int} (hk : 0 ≤ k ∧ k < n) (c : List Int) : CutOf b n (D.setLast ((b : Int) + k) c) (d.setLast k c) := by
 have h1 := h.ln
 have h2 := h.up
 refine ⟨by simp only [Dv.setLast, List.length_set]; exact h.ln, h.nl, by simp only [Dv.setLast, List.length_set]; exact h.up, by simp only [Dv.setLast, List.length_set]; exact h.NL, fun j hj => ?_, fun j hj => h.lt j hj⟩
 simp only [Dv.setLast]
 rw [List.getElem?_set, List.getElem?_set, show ((b : Int) + k).toNat = b + k.toNat by omega]
 by_cases e : k.toNat = j
 · rw [if_pos (by omega), if_pos e, if_pos (by omega), if_pos (by omega)]
 ·
  rw [if_neg (by omega), if_neg e]
  exact h.la j hj
theorem CutOf.setLater (h : CutOf b n D d) {k : Int} (hk : 0 ≤ k ∧ k < n) (c : List Int) : CutOf b n (D.setLater ((b : Int) + k) c) (d.setLater k c) := by
 have h1 := h.nl
 have h2 := h.up
 have h3 := h.NL
 refine ⟨h.ln, by simp only [Dv.setLater, List.length_set]; exact h.nl, h.up, by simp only [Dv.setLater, List.length_set]; exact h.NL, fun j hj => h.la j hj, fun j hj => ?_⟩
 simp only [Dv.setLater]
 rw [List.getElem?_set, List.getElem?_set, show ((b : Int) + k).toNat = b + k.toNat by omega]
 by_cases e : k.toNat = j
 · rw [if_pos (by omega), if_pos e, if_pos (by omega), if_pos (by omega)]
 ·
  rw [if_neg (by omega), if_neg e]
  exact h.lt j hj
theorem CutOf.setLastO (h : CutOf b n D d) {i : Int} (h0 : 0 ≤ i) (hi : i < b ∨ (b : Int) + n ≤ i) (c : List Int) : CutOf b n (D.setLast i c) d := by
 refine ⟨h.ln, h.nl, by simp only [Dv.setLast, List.length_set]; exact h.up, by simp only [Dv.setLast, List.length_set]; exact h.NL, fun j hj => ?_, h.lt⟩
 simp only [Dv.setLast]
 rw [List.getElem?_set, if_neg (by omega)]
 exact h.la j hj
theorem CutOf.setLaterO (h : CutOf b n D d) {i : Int} (h0 : 0 ≤ i) (hi : i < b ∨ (b : Int) + n ≤ i) (c : List Int) : CutOf b n (D.setLater i c) d := by
 refine ⟨h.ln, h.nl, h.up, by simp only [Dv.setLater, List.length_set]; exact h.NL, h.la, fun j hj => ?_⟩
 simp only [Dv.setLater]
 rw [List.getElem?_set, if_neg (by omega)]
 exact h.lt j hj
theorem CutOf.settle1 (h : CutOf b n D d) {k : Int} (hk : 0 ≤ k ∧ k < n) (y : Bool) : CutOf b n (D.settle1 ((b : Int) + k) y) (d.settle1 k y) := by
 unfold Dv.settle1
 cases y with
 | true => rw [if_pos rfl, if_pos rfl, h.late hk]; exact (h.setLast hk _).setLater hk _
 | false => rw [if_neg (by simp), if_neg (by simp)]; exact h.setLater hk _
theorem CutOf.settle1O (h : CutOf b n D d) {i : Int} (h0 : 0 ≤ i) (hi : i < b ∨ (b : Int) + n ≤ i) (y : Bool) : CutOf b n (D.settle1 i y) d := by
 unfold Dv.settle1
 cases y with
 | true => rw [if_pos rfl]; exact (h.setLastO h0 hi _).setLaterO h0 hi _
 | false => rw [if_neg (by simp)]; exact h.setLaterO h0 hi _
end
theorem CutOf.settle {b n : Nat} {σ : Type} (step : σ → σ × Bool) : ∀ (l : List Int), (∀ k ∈ l, 0 ≤ k ∧ k < (n : Int)) → ∀ (D d : Dv) (s : σ), CutOf b n D d →
  CutOf b n (Go.Proofs.YtfpghdcjdnifcaaGreat.settle step (D, s) (l.map fun k => (b : Int) + k)).1 (Go.Proofs.YtfpghdcjdnifcaaGreat.settle step (d, s) l).1 ∧ (Go.Proofs.YtfpghdcjdnifcaaGreat.settle step (D, s) (l.map fun k => (b : Int) + k)).2 = (Go.Proofs.YtfpghdcjdnifcaaGreat.settle step (d, s) l).2
 | [], _, D, d, s, h => ⟨h, rfl⟩
 | k :: l, hl, D, d, s, h => by
  have h1 := h.settle1 (hl k (List.mem_cons_self ..)) (step s).2
  exact CutOf.settle step l (fun q hq => hl q (List.mem_cons_of_mem _ hq)) _ _ (step s).1 h1
theorem CutOf.settleO {b n : Nat} {σ : Type} (step : σ → σ × Bool) : ∀ (l : List Int), (∀ i ∈ l, 0 ≤ i ∧ (i < b ∨ (b : Int) + n ≤ i)) → ∀ (D d : Dv) (s : σ), CutOf b n D d → CutOf b n (Go.Proofs.YtfpghdcjdnifcaaGreat.settle step (D, s) l).1 d
 | [], _, D, d, s, h => h
 | k :: l, hl, D, d, s, h => by
  obtain ⟨h0, h1⟩ := hl k (List.mem_cons_self ..)
  exact CutOf.settleO step l (fun q hq => hl q (List.mem_cons_of_mem _ hq)) _ _ (step s).1 (h.settle1O h0 h1 (step s).2)
theorem CutOf.laterIn {b n : Nat} {D d : Dv} (h : CutOf b n D d) : D.laterIn b (b + n) = (d.laterIn 0 n).map fun k => (b : Int) + k := by
 have h1 := h.ln
 have h2 := h.up
 unfold Dv.laterIn
 obtain ⟨m, hm⟩ : ∃ m, D.lasts.length = b + (n + m) := ⟨D.lasts.length - b - n, by omega⟩
 rw [hm, h1, List.range_add, List.range_add, List.map_append, List.map_append, List.filter_append, List.map_map, List.map_append, List.filter_append]
 have e1 : List.filter (fun i => decide ((b : Int) ≤ i ∧ i < (b : Int) + n ∧ D.late i ≠ [])) (List.map Int.ofNat (List.range b)) = [] := by
  rw [List.filter_eq_nil_iff]
  intro x hx
  obtain ⟨y, hy, rfl⟩ := List.mem_map.1 hx
  have := List.mem_range.1 hy
  simp only [decide_eq_true_eq, Int.ofNat_eq_natCast]
  omega
 have e2 : List.filter (fun i => decide ((b : Int) ≤ i ∧ i < (b : Int) + n ∧ D.late i ≠ [])) (List.map Int.ofNat (List.map ((fun x => b + x) ∘ fun x => n + x) (List.range m))) = [] := by
  rw [List.filter_eq_nil_iff]
  intro x hx
  obtain ⟨y, hy, rfl⟩ := List.mem_map.1 hx
  obtain ⟨z, hz, rfl⟩ := List.mem_map.1 hy
  simp only [decide_eq_true_eq, Function.comp_apply, Int.ofNat_eq_natCast]
  omega
 rw [e1, e2, List.nil_append, List.append_nil, List.map_map, List.filter_map, List.filter_map, List.map_map]
 have e3 : (Int.ofNat ∘ fun x => b + x) = ((fun k => (b : Int) + k) ∘ Int.ofNat) := by
  funext x
  simp
 rw [e3]
 congr 1
 refine List.filter_congr fun x hx => ?_
 have hx2 := List.mem_range.1 hx
 have h3 := h.late (k := (x : Int)) ⟨by omega, by omega⟩
 simp only [Function.comp_apply, Int.ofNat_eq_natCast, h3, decide_eq_decide]
 constructor
 · rintro ⟨a1, a2, a3⟩; exact ⟨by omega, by omega, a3⟩
 · rintro ⟨a1, a2, a3⟩; exact ⟨by omega, by omega, a3⟩
theorem laterIn_low {d : Dv} {f t : Int} : ∀ k ∈ d.laterIn f t, 0 ≤ k ∧ f ≤ k ∧ k < t := fun k hk => by
 unfold Dv.laterIn at hk
 obtain ⟨h1, h2⟩ := List.mem_filter.1 hk
 obtain ⟨y, -, rfl⟩ := List.mem_map.1 h1
 simp only [decide_eq_true_eq] at h2
 exact ⟨Int.natCast_nonneg y, h2.1, h2.2.1⟩
section
variable {b n : Nat} {D d : Dv}
theorem CutOf.read (h : CutOf b n D d) {k : Int} (hk : 0 ≤ k ∧ k < n) : D.read ((b : Int) + k) = d.read k := by
 obtain ⟨h1, h2⟩ := h.in_ hk
 unfold Dv.read
 rw [if_pos h1, if_pos h2, h.last hk, h.late hk]
theorem CutOf.lasting (h : CutOf b n D d) {k : Int} (hk : 0 ≤ k ∧ k < n) : D.lasting ((b : Int) + k) = d.lasting k := by
 obtain ⟨h1, h2⟩ := h.in_ hk
 unfold Dv.lasting
 rw [if_pos h1, if_pos h2, h.last hk]
theorem CutOf.write (h : CutOf b n D d) {k : Int} (hk : 0 ≤ k ∧ k < n) (bs : List Int) : CutOf b n (D.write ((b : Int) + k) bs).1 (d.write k bs).1 ∧ (D.write ((b : Int) + k) bs).2 = (d.write k bs).2 := by
 obtain ⟨h1, h2⟩ := h.in_ hk
 unfold Dv.write
 rw [if_pos h1, if_pos h2]
 split
 · exact ⟨h.setLater hk _, rfl⟩
 · exact ⟨h, rfl⟩
theorem CutOf.writeO (h : CutOf b n D d) {i : Int} (hi : i < b ∨ (b : Int) + n ≤ i) (bs : List Int) : CutOf b n (D.write i bs).1 d := by
 unfold Dv.write
 split
 ·
  rename_i h1
  split
  · exact h.setLaterO h1.1 hi _
  · exact h
 · exact h
theorem CutOf.turn (h : CutOf b n D d) {k : Int} (hk : 0 ≤ k ∧ k < n) (place : Int) (by_ : Nat) : CutOf b n (D.turn ((b : Int) + k) place by_).1 (d.turn k place by_).1 ∧ (D.turn ((b : Int) + k) place by_).2 = (d.turn k place by_).2 := by
 obtain ⟨h1, h2⟩ := h.in_ hk
 unfold Dv.turn
 by_cases hp : 0 ≤ place ∧ place < 20
 ·
  rw [if_pos ⟨h1, hp⟩, if_pos ⟨h2, hp⟩, h.last hk]
  exact ⟨h.setLast hk _, rfl⟩
 ·
  rw [if_neg (fun q => hp q.2), if_neg (fun q => hp q.2)]
  exact ⟨h, rfl⟩
theorem CutOf.barrier (h : CutOf b n D d) : CutOf b n (D.barrier b (b + n)) (d.barrier 0 n) := by
 unfold Dv.barrier
 rw [h.laterIn]
 exact (CutOf.settle allB _ (fun k hk => by have := laterIn_low k hk; omega) D d () h).1
theorem CutOf.barrierO (h : CutOf b n D d) {f t : Int} (hi : t ≤ b ∨ (b : Int) + n ≤ f) : CutOf b n (D.barrier f t) d := by
 unfold Dv.barrier
 exact CutOf.settleO allB _ (fun k hk => by have := laterIn_low k hk; omega) D d () h
end
end Go.Proofs.YtfpghdcjdnifcaaGreat
namespace Go.Proofs.YtfpghdcjdnifcaaGreat
open Go Go.Sl Go.IntWalk
set_option maxHeartbeats 8000000
set_option maxRecDepth 20000
set_option linter.unusedVariables false
def In0 (n x : Int) : Prop := 0 ≤ x ∧ x < n
def PgP (n : Int) (p : Pt) : Prop := ∀ f ∈ p.fs, In0 n f.page
def IoOk (n : Int) (x : Io) : Prop := ((x.1 = 1 ∨ x.1 = 2) ∧ In0 n x.2.1 ∧ (x.2.2 = 0 ∨ x.2.2 = 1)) ∨ (x.1 = 3 ∧ x.2.1 = 0 ∧ x.2.2 = 0)
section
variable {n : Int} {p : Pt}
theorem PgP.at (h : PgP n p) (h1 : 1 ≤ n) (i : Int) : In0 n (p.at_ i).page := by
 have h0 : In0 n Fr.zero.page := ⟨Int.le_refl 0, by show (0 : Int) < n; omega⟩
 unfold Pt.at_
 split
 ·
  rename_i hi
  rw [List.getD_eq_getElem?_getD, List.getElem?_eq_getElem (show i.toNat < p.fs.length by omega), Option.getD_some]
  exact h _ (List.getElem_mem _)
 · exact h0
theorem PgP.set (h : PgP n p) (j : Nat) {f : Fr} (hf : In0 n f.page) (tbl : List (Int × Int)) (hand : Int) : PgP n ⟨p.fs.set j f, tbl, hand⟩ := fun g hg => by
 rcases List.mem_or_eq_of_mem_set hg with hg | rfl
 · exact h g hg
 · exact hf
theorem PgP.doPage (h : PgP n p) (h1 : 1 ≤ n) (page : Int) {g : Fr → Fr × Int} (hk : ∀ f : Fr, (g f).1.page = f.page) : PgP n (p.doPage page g).1 := by
 unfold Pt.doPage
 split
 ·
  rename_i i _
  exact h.set _ (by rw [hk]; exact h.at h1 i) _ _
 · exact h
theorem pin_page (f : Fr) : f.pin.1.page = f.page := by unfold Fr.pin; split <;> (try split) <;> rfl
theorem unpin_page (f : Fr) : f.unpin.1.page = f.page := by unfold Fr.unpin; split <;> rfl
theorem get_page (f : Fr) (a b : Int) : (f.get a b).1.page = f.page := by unfold Fr.get; split <;> (try split) <;> rfl
theorem put_page (f : Fr) (a : Int) (b : List Int) : (f.put a b).1.page = f.page := by unfold Fr.put; split <;> (try split) <;> rfl
theorem setAll_page : ∀ {fs : List Fr} {gs : List Fl}, (∀ f ∈ fs, In0 n f.page) → ∀ f ∈ setAll fs gs, In0 n f.page
 | [], _, _, f, hf => by simp [setAll] at hf
 | f0 :: fs, [], h, f, hf => h f (by simpa [setAll] using hf)
 | f0 :: fs, g :: gs, h, f, hf => by
  simp only [setAll, List.mem_cons] at hf
  rcases hf with rfl | hf
  · exact h f0 (List.mem_cons_self ..)
  · exact setAll_page (fun q hq => h q (List.mem_cons_of_mem _ hq)) f hf
theorem PgP.victim (h : PgP n p) : PgP n p.victim.1 := setAll_page h
theorem PgP.release (h : PgP n p) (h1 : 1 ≤ n) (i : Int) : PgP n (p.release i).1 := by
 unfold Pt.release
 split
 · exact h
 ·
  split
  · exact h.set _ (⟨Int.le_refl 0, by show (0 : Int) < n; omega⟩ : In0 n Fr.zero.page) _ _
  · exact h
theorem PgP.clean (h : PgP n p) (h1 : 1 ≤ n) (i : Int) : PgP n (p.clean i).1 := by
 unfold Pt.clean
 split
 · exact h
 · exact h.set (f := (p.at_ i).clean) _ (h.at h1 i) _ _
theorem PgP.load (h : PgP n p) (i : Int) {page : Int} (hp : In0 n page) (bs : List Int) : PgP n (p.load i page bs).1 := by
 unfold Pt.load
 split
 ·
  split
  · exact h.set _ (show In0 n page from hp) _ _
  · exact h
 · exact h
theorem PgP.get (h : PgP n p) (h1 : 1 ≤ n) (page off m : Int) : PgP n (p.get page off m).1 := by
 unfold Pt.get
 split
 ·
  rename_i i _
  exact h.set _ (by rw [get_page]; exact h.at h1 i) _ _
 · exact h
theorem PgP.new (h1 : 1 ≤ n) (k : Nat) : PgP n (Pt.new k) := fun f hf => by
 rw [List.eq_of_mem_replicate hf]
 exact ⟨Int.le_refl 0, by show (0 : Int) < n; omega⟩
end
theorem pages_io {n k : Int} (hk : k = 1 ∨ k = 2) {ps : List Int} (h : ∀ q ∈ ps, In0 n q) : ∀ x ∈ pages k ps, IoOk n x := fun x hx => by
 obtain ⟨h1, h2, h3⟩ := mem_pages hx
 exact .inl ⟨by rw [h1]; exact hk, h _ h2, h3⟩
theorem planFetch_io {n page old : Int} (h1 : In0 n page) (h2 : In0 n old) (d : Bool) : ∀ x ∈ planFetch page d old, IoOk n x := fun x hx => by
 unfold planFetch at hx
 rcases List.mem_append.1 hx with hx | hx
 ·
  split at hx
  · exact pages_io (.inr rfl) (fun q hq => by rw [List.mem_singleton.1 hq]; exact h2) x hx
  · cases hx
 · exact pages_io (.inl rfl) (fun q hq => by rw [List.mem_singleton.1 hq]; exact h1) x hx
theorem planFlush_io {n : Int} {ps : List Int} (h : ∀ q ∈ ps, In0 n q) : ∀ x ∈ planFlush ps, IoOk n x := fun x hx => by
 unfold planFlush at hx
 rcases List.mem_append.1 hx with hx | hx
 · exact pages_io (.inr rfl) h x hx
 · rw [List.mem_singleton.1 hx]; exact .inr ⟨rfl, rfl, rfl⟩
structure PgM (n : Int) (m : Mc) (p : Pt) : Prop where
 one : 1 ≤ n
 fr : PgP n p
 td : ∀ x ∈ m.todo, IoOk n x
 pg : In0 n m.page
section
variable {n : Int} {m : Mc} {p : Pt}
theorem PgM.with (h : PgM n m p) {p' : Pt} (hp : PgP n p') : PgM n m p' := ⟨h.one, hp, h.td, h.pg⟩
theorem PgM.idle (h1 : 1 ≤ n) (hp : PgP n p) : PgM n Mc.idle p := ⟨h1, hp, (fun x hx => by cases hx), ⟨Int.le_refl 0, by show (0 : Int) < n; omega⟩⟩
theorem PgM.op (h : PgM n m p) {q : Rq} (hq : In0 n q.page) : PgM n (mOp m p q).1 (mOp m p q).2.1 := by
 have h1 := h.one
 unfold mOp
 split
 ·
  unfold mFetch
  split
  · exact h.with (h.fr.doPage h1 _ pin_page)
  ·
   unfold mMiss
   split
   · exact h.with h.fr.victim
   ·
    rename_i i _
    refine ⟨h1, ?_, planFetch_io h.pg (h.fr.victim.at h1 _) _, h.pg⟩
    simp only
    split
    · exact h.fr.victim.release h1 _
    · exact h.fr.victim
 ·
  split
  · exact h.with (h.fr.get h1 _ _ _)
  ·
   split
   · exact h.with (h.fr.doPage h1 _ fun f => put_page f _ _)
   ·
    split
    · exact h.with (h.fr.doPage h1 _ unpin_page)
    ·
     have hs : ∀ page q, q ∈ selD p page p.dirty → In0 n q := fun page q hq => by
      unfold selD at hq
      obtain ⟨i, -, rfl⟩ := List.mem_map.1 hq
      exact h.fr.at h1 i
     split
     · exact ⟨h1, h.fr, planFlush_io (hs _), h.pg⟩
     ·
      split
      · exact ⟨h1, h.fr, planFlush_io (hs _), h.pg⟩
      ·
       split
       ·
        refine h.with ?_
        simp only
        unfold mDiscard
        split
        · exact h.fr
        · exact h.fr.release h1 _
       · exact h
theorem PgM.begin (h : PgM n m p) {q : Rq} (hq : In0 n q.page) : PgM n (mBegin m p q).1 (mBegin m p q).2.1 := by
 unfold mBegin
 exact PgM.op (m := { m with op := q.op, page := q.page }) ⟨h.one, h.fr, h.td, hq⟩ hq
theorem PgM.step (h : PgM n m p) (bs : List Int) : PgM n (mStep m p bs).1 (mStep m p bs).2.1 := by
 have h1 := h.one
 have ht : ∀ x ∈ m.todo.tail, IoOk n x := fun x hx => h.td x (List.mem_of_mem_tail hx)
 unfold mStep
 split
 ·
  refine ⟨h1, ?_, ht, h.pg⟩
  simp only
  unfold mStored
  split
  · exact (h.fr.clean h1 _).release h1 _
  · exact h.fr.clean h1 _
 ·
  split
  · exact ⟨h1, h.fr, ht, h.pg⟩
  · exact ⟨h1, h.fr, ht, h.pg⟩
theorem PgM.end (h : PgM n m p) (e : Int) (bs : List Int) : PgM n (mEnd m p e bs).1 (mEnd m p e bs).2.1 := by
 have h1 := h.one
 have hs := h.step bs
 unfold mEnd
 split
 · exact PgM.idle h1 h.fr
 ·
  split
  · exact hs
  ·
   refine PgM.idle h1 ?_
   simp only
   split
   · exact (hs.fr.load _ h.pg _).doPage h1 _ pin_page
   · exact hs.fr
end
structure PgT (t : Tn) : Prop where
 pm : PgM t.pages t.m t.p
 js : ∀ j ∈ t.js, In0 t.pages j.2.page
theorem tell_pages (t : Tn) (x : Re) (tick : Int) : (t.tell x tick).pages = t.pages ∧ (t.tell x tick).m = t.m ∧ (t.tell x tick).p = t.p ∧ (∀ j ∈ (t.tell x tick).js, j ∈ t.js) := by
 unfold Tn.tell
 split
 · exact ⟨rfl, rfl, rfl, fun j hj => List.mem_of_mem_tail hj⟩
 · exact ⟨rfl, rfl, rfl, fun j hj => hj⟩
theorem PgT.tell {t : Tn} {m : Mc} {p : Pt} (h : PgT t) (hm : PgM t.pages m p) (x : Re) (tick : Int) : PgT (({ t with m := m, p := p } : Tn).tell x tick) := by
 obtain ⟨h1, h2, h3, h4⟩ := tell_pages ({ t with m := m, p := p } : Tn) x tick
 exact ⟨by rw [h1, h2, h3]; exact hm, fun j hj => by rw [h1]; exact h.js j (h4 j hj)⟩
theorem head_in {t : Tn} (h : PgT t) : In0 t.pages (t.js.headD noJob).2.page := by
 have h1 := h.pm.one
 cases hj : t.js with
 | nil => exact ⟨Int.le_refl 0, by show (0 : Int) < _; omega⟩
 | cons j js => exact h.js j (by rw [hj]; exact List.mem_cons_self ..)
theorem PgT.begun {t : Tn} (h : PgT t) (tick : Int) : PgT (t.begun tick) := h.tell (h.pm.begin (head_in h)) _ _
theorem PgT.run (tick : Int) : ∀ (k : Nat) {t : Tn}, PgT t → PgT (t.run tick k)
 | 0, t, h => h
 | k + 1, t, h => by
  unfold Tn.run
  split
  · exact PgT.run tick k (h.begun tick)
  · exact h
theorem rcheck_in {q : Rq} {pages : Int} (h1 : 1 ≤ pages) (h : rcheck q pages = 0) : In0 pages q.page := by
 unfold rcheck at h
 split at h
 · cases h
 ·
  rename_i g1
  split at h
  · cases h
  ·
   rename_i g2
   have g3 : q = rnamed q := Decidable.byContradiction fun hc => g1 (.inr hc)
   unfold In0
   by_cases h8 : q.op = 6 ∨ q.op = 8
   ·
    have := congrArg Rq.page g3
    unfold rnamed at this
    rw [if_neg (by omega), if_neg (by omega), if_neg (by omega)] at this
    simp only at this
    omega
   · omega
theorem PgT.submit {d : Nat} {t : Tn} (h : PgT t) (q : Rq) (tick : Int) : PgT (t.submit d q tick).1 := by
 unfold Tn.submit
 split
 · exact h
 ·
  rename_i hc
  split
  · exact h
  ·
   refine PgT.run tick _ ⟨h.pm, fun j hj => ?_⟩
   rcases List.mem_append.1 hj with hj | hj
   · exact h.js j hj
   ·
    rw [List.mem_singleton.1 hj]
    exact rcheck_in h.pm.one (by simpa using hc)
theorem PgT.over {t : Tn} (h : PgT t) (e : Int) (bs : List Int) (tick : Int) : PgT (t.over e bs tick) := PgT.run tick _ (h.tell (h.pm.end e bs) _ _)
theorem PgT.taken {t : Tn} (h : PgT t) : PgT t.taken := ⟨h.pm, h.js⟩
theorem PgT.new (n : Nat) {pages : Int} (h : 1 ≤ pages) : PgT (Tn.new n pages) := ⟨PgM.idle h (PgP.new h _), fun j hj => by cases hj⟩
end Go.Proofs.YtfpghdcjdnifcaaGreat
namespace Go.Proofs.YtfpghdcjdnifcaaGreat
open Go Go.Sl Go.IntWalk
set_option maxHeartbeats 8000000
set_option maxRecDepth 20000
set_option linter.unusedVariables false
def Rs.d (r : Rs) : List Value := [.int .i64 r.id, .int .i64 r.errno, .bool r.hit, .int .i64 r.tick, .string (bstr r.data), .int .u64 r.c.h, .int .u64 r.c.m, .int .u64 r.c.e, .int .u64 r.c.r, .int .u64 r.c.w, .int .u64 r.c.f]
def DocT (d : Nat) (t : Tn) (l : List Value) (D : HL) : Prop := ∃ a c r at_ ct rt ag cg rg aq cq rq jl ao co ro,
 l = [.slice a t.p.fs.length c, .int .i64 t.p.hand, .int .i64 t.m.op, .int .i64 t.m.page, .slice at_ t.m.todo.length ct, .int .i64 t.m.to, .slice ag t.m.got.length cg, .int .i64 (d : Int), .int .i64 t.pages, .slice aq (List.length jl) cq, .int .i64 t.ids,
  .int .u64 t.c.h, .int .u64 t.c.m, .int .u64 t.c.e, .int .u64 t.c.r, .int .u64 t.c.w, .int .u64 t.c.f, .slice ao t.out.length co] ∧
 RoSl 6 (dflat t.p.fs) a t.p.fs.length r ∧ RoSl 3 (ios t.m.todo) at_ t.m.todo.length rt ∧ RoSl 1 (u8s t.m.got) ag t.m.got.length rg ∧ t.m.todo.length ≤ ct ∧ (∀ q ∈ r, q ∈ D) ∧ (∀ q ∈ rt, q ∈ D) ∧ (∀ q ∈ rg, q ∈ D) ∧
 jl.map Jb.j = t.js ∧ RoSl 6 (jl.flatMap Jb.l) aq jl.length rq ∧ jl.length ≤ cq ∧ (∀ q ∈ rq, q ∈ D) ∧ (∀ j ∈ jl, ∃ r, RoSl 1 (u8s j.xs) j.a j.xs.length r ∧ ∀ q ∈ r, q ∈ D) ∧
 RoSl 11 (t.out.flatMap Rs.d) ao t.out.length ro ∧ (∀ q ∈ ro, q ∈ D)
def eq1 : Rq := ⟨1, 0, 0, 0, []⟩
def eq8 : Rq := ⟨8, 0, 0, 0, []⟩
def z16' : List Int := List.replicate 16 0
def y1 : Tn × Int × Int := (Tn.new 1 2).submit 1 eq1 0
def y2 : Tn × Int × Int := y1.1.submit 1 eq8 0
def y3 : Tn := y2.1.over 0 z16' 1
def y4 : Tn := y3.over 0 z16' 2
def y5 : Tn × Int × Int := y4.submit 1 eq8 3
theorem y1_is : (y1.2, y1.1.m.todo.length, y1.1.ids) = ((1, 0), 2, 1) := by kernel_rfl
theorem y2_is : (y2.2, y2.1.m.todo.length, y2.1.ids) = ((0, 8), 2, 1) := by kernel_rfl
theorem y3_is : (y3.m.todo.length, y3.ids) = (1, 1) := by kernel_rfl
theorem y4_is : (y4.m.todo.length, y4.ids) = (0, 1) := by kernel_rfl
theorem y5_is : (y5.2, y5.1.out.map fun r => (r.id, r.tick, r.c.m)) = ((2, 0), [(1, 2, 0), (2, 3, 1)]) := by kernel_rfl
theorem ys : ∃ (y1 y2 y5 : Tn × Int × Int) (y3 y4 : Tn), (Tn.new 1 2).submit 1 eq1 0 = y1 ∧ y1.1.submit 1 eq8 0 = y2 ∧ y2.1.over 0 z16' 1 = y3 ∧ y3.over 0 z16' 2 = y4 ∧ y4.submit 1 eq8 3 = y5 ∧
  (y1.2, y1.1.m.todo.length, y1.1.ids) = ((1, 0), 2, 1) ∧ (y2.2, y2.1.m.todo.length, y2.1.ids) = ((0, 8), 2, 1) ∧ (y3.m.todo.length, y3.ids) = (1, 1) ∧ (y4.m.todo.length, y4.ids) = (0, 1) ∧
  (y5.2, y5.1.out.map fun r => (r.id, r.tick, r.c.m)) = ((2, 0), [(1, 2, 0), (2, 3, 1)]) := ⟨y1, y2, y5, y3, y4, rfl, rfl, rfl, rfl, rfl, y1_is, y2_is, y3_is, y4_is, y5_is⟩
end Go.Proofs.YtfpghdcjdnifcaaGreat
namespace Go.Proofs.YtfpghdcjdnifcaaGreat
open Go Go.Sl Go.IntWalk
set_option maxHeartbeats 8000000
set_option maxRecDepth 20000
set_option linter.unusedVariables false
end Go.Proofs.YtfpghdcjdnifcaaGreat
namespace Go.Proofs.YtfpghdcjdnifcaaGreat
open Go Go.Sl Go.IntWalk
set_option maxHeartbeats 8000000
set_option maxRecDepth 20000
set_option linter.unusedVariables false
theorem DocT.mono {d : Nat} {t : Tn} {l : List Value} {D D' : HL} (h : DocT d t l D) (hs : ∀ q ∈ D, q ∈ D') : DocT d t l D' := by
 obtain ⟨a, c, r, at_, ct, rt, ag, cg, rg, aq, cq, rq, jl, ao, co, ro, h0, h1, h2, h3, h4, h5, h6, h7, h8, h9, h10, h11, h12, h13, h14⟩ := h
 exact ⟨a, c, r, at_, ct, rt, ag, cg, rg, aq, cq, rq, jl, ao, co, ro, h0, h1, h2, h3, h4, fun q hq => hs q (h5 q hq), fun q hq => hs q (h6 q hq), fun q hq => hs q (h7 q hq), h8, h9, h10, fun q hq => hs q (h11 q hq), fun j hj => (h12 j hj).imp fun r h => ⟨h.1, fun q hq => hs q (h.2 q hq)⟩, h13, fun q hq => hs q (h14 q hq)⟩
def zT : List Value := [.slice none 0 0, .int .i64 0, .int .i64 0, .int .i64 0, .slice none 0 0, .int .i64 0, .slice none 0 0, .int .i64 0, .int .i64 0, .slice none 0 0, .int .i64 0, .int .u64 0, .int .u64 0, .int .u64 0, .int .u64 0, .int .u64 0, .int .u64 0, .slice none 0 0]
end Go.Proofs.YtfpghdcjdnifcaaGreat
namespace Go.Proofs.YtfpghdcjdnifcaaGreat
open Go Go.Sl Go.IntWalk
set_option maxHeartbeats 8000000
set_option maxRecDepth 20000
set_option linter.unusedVariables false
end Go.Proofs.YtfpghdcjdnifcaaGreat
namespace Go.Proofs.YtfpghdcjdnifcaaGreat
open Go Go.Sl Go.IntWalk
set_option maxHeartbeats 8000000
set_option maxRecDepth 20000
set_option linter.unusedVariables false
def Fed (m : Mc) (e : Int) (bs : List Int) : Prop := e = 0 → (u8ok bs ∧ bs.length = 16) ∨ (m.io.1 ≠ 1 ∧ bs = [])
theorem mStep_bs {m : Mc} (h : m.io.1 ≠ 1) (p : Pt) (bs bs' : List Int) : mStep m p bs = mStep m p bs' := by
 unfold mStep
 simp only [if_neg h]
theorem mEnd_bs {m : Mc} (h : m.io.1 ≠ 1) (p : Pt) (e : Int) (bs bs' : List Int) : mEnd m p e bs = mEnd m p e bs' := by
 unfold mEnd
 rw [mStep_bs h p bs bs']
theorem fed_ok {m : Mc} {p : Pt} (h : MInv m p) (hne : m.todo ≠ []) {e : Int} {bs : List Int} (hf : Fed m e bs) (h0 : e = 0) :
  m.got.length + bs.length ≤ 100000 ∧ (mStep m p bs).2.1.Inv ∧ ((mStep m p bs).2.1.load m.to m.page (mStep m p bs).1.got).1.Inv := by
 rcases hf h0 with ⟨hu, hl⟩ | ⟨hk, rfl⟩
 · exact ⟨got_len h hl, (mStep_inv h hne hu hl).1, end_load_inv h hne hu hl _ _⟩
 ·
  rw [mStep_bs hk p [] (List.replicate 16 0)]
  refine ⟨by have := h.room; simp only [List.length_nil]; omega, (mStep_inv h hne z16_ok List.length_replicate).1, end_load_inv h hne z16_ok List.length_replicate _ _⟩
theorem fed_inv {m : Mc} {p : Pt} (h : MInv m p) (hne : m.todo ≠ []) {e : Int} {bs : List Int} (hf : Fed m e bs) : MInv (mEnd m p e bs).1 (mEnd m p e bs).2.1 := by
 rcases Classical.em (e = 0) with h0 | h0
 ·
  rcases hf h0 with hb | ⟨hk, rfl⟩
  · exact end_invE h hne e (fun _ => hb)
  ·
   rw [mEnd_bs hk p e [] (List.replicate 16 0)]
   exact end_invE h hne e (fun _ => ⟨z16_ok, List.length_replicate⟩)
 · exact end_invE h hne e (fun h => absurd h h0)
theorem fed_over {d : Nat} {t : Tn} (h : TInv d t) (hb : t.m.todo ≠ []) {e : Int} {bs : List Int} (hf : Fed t.m e bs) (tick : Int) : TInv d (t.over e bs tick) := by
 have hd := end_done t.m t.p e bs
 exact run_inv tick _ (tell_inv h (h.bz hb) (fed_inv h.mi hb hf) hd.1 hd.2.1 tick)
theorem OverF_spec (d : Nat) (t : Tn) (hi : TInv d t) (hid : t.ids ≤ 1000000) (hb : t.m.todo ≠ []) (b bp : Nat) (H : HL) (ht : TAt d t b bp H) (Hp : HL) (hp : PtAt t.p bp Hp) (e : Int) (bs : List Int) (hf : Fed t.m e bs) (ab : Option Addr) (cb : Nat) (rb : HL) (hrb : RoSl 1 (u8s bs) ab bs.length rb) (tick : Int) :
  Ctr Tryz.prog 172 [.pointer (some ⟨b, 0, none⟩), .int .i64 e, .slice ab bs.length cb, .int .i64 tick] [H, Hp] rb (fun _ L' => ∃ H' Hp', L' = [H', Hp'] ∧ TAt d (t.over e bs tick) b bp H' ∧ PtAt (t.over e bs tick).p bp Hp') := by
 obtain ⟨bm, bq, ao, co, ls, los, Hm, Hq, Ho, D, rfl, hm, hqa, hls, hown, hlo, hlj, hll⟩ := ht
 have hd := end_done t.m t.p e bs
 have hne := hi.bz hb
 have hE := End_spec t.m hb bm bp Hm hm t.p hi.mi.inv Hp hp e bs ab cb rb hrb (fun h => fed_ok hi.mi hb hf h)
 have hdat := mEnd_data t.m t.p e bs
 have hT1 := tell_inv hi hne (fed_inv hi.mi hb hf) hd.1 hd.2.1 tick
 have hT := fun Hm' (g1 : MAt (mEnd t.m t.p e bs).1 bm bp Hm') => Tell_spec d ({ t with m := (mEnd t.m t.p e bs).1, p := (mEnd t.m t.p e bs).2.1 } : Tn) b bp _ ⟨bm, bq, ao, co, ls, los, Hm', Hq, Ho, D, rfl, g1, hqa, hls, hown, hlo, hlj, hll⟩ (mEnd t.m t.p e bs).2.2 (fun _ => hne) hi.cok hd.1 tick none 0 0 [] (by rw [hdat]; exact ⟨rfl, .inl ⟨rfl, rfl⟩⟩) (by rw [hdat]; rfl) (by have := hi.ids; show t.out.length ≤ 1000000; omega)
 have hbp : ∀ Hp', PtAt (mEnd t.m t.p e bs).2.1 bp Hp' → PtAt (({ t with m := (mEnd t.m t.p e bs).1, p := (mEnd t.m t.p e bs).2.1 } : Tn).tell (mEnd t.m t.p e bs).2.2 tick).p bp Hp' := fun Hp' h => by
  unfold Tn.tell; split <;> exact h
 have hide := tell_ids ({ t with m := (mEnd t.m t.p e bs).1, p := (mEnd t.m t.p e bs).2.1 } : Tn) (mEnd t.m t.p e bs).2.2 tick
 unfold Tn.over
 generalize ({ t with m := (mEnd t.m t.p e bs).1, p := (mEnd t.m t.p e bs).2.1 } : Tn).tell (mEnd t.m t.p e bs).2.2 tick = t2 at *
 simp only at hide
 generalize mEnd t.m t.p e bs = me at *
 have hR := fun H2 ht2 Hp2 hp2 => Run_spec d t2 hT1 (by omega) b bp H2 ht2 Hp2 hp2 tick
 refine Ctr.enter (n := 21) [] [(0, _), (1, _), (2, _), (3, _)] Tryz.func172 rfl rfl rfl (lb rfl) Tryz.call172 ⟨rfl, rfl, rfl, rfl, trivial⟩ ?_
 intro cx fin fin0
 refine aG ?_
 refine spl5 rfl ?_
 refine aG ?_
 repeat refine gx ?_
 refine aC (o := hE) (h := ?_) (hro := RoIn.same)
 rintro _ _ ⟨Hm2, Hp2, rfl, rfl, g1, g2⟩
 refine aG ?_
 repeat refine gx ?_
 refine W.groupV [2, 0, 1, 1, 1] rfl ?_
 refine W.nilChunk ?_
 refine aC (o := hT Hm2 g1) (h := ?_)
 rintro _ _ ⟨H2, rfl, ht2⟩
 refine aG ?_
 repeat refine gx ?_
 refine aC (o := hR H2 ht2 Hp2 (hbp Hp2 g2)) (h := ?_)
 rintro _ _ ⟨H3, Hp3, rfl, ht3, hp3⟩
 refine aG ?_
 repeat refine gx ?_
 refine fin0 _ _ (FinOk.first 2 .nil rfl ?_)
 exact ⟨_, _, rfl, ht3, hp3⟩
end Go.Proofs.YtfpghdcjdnifcaaGreat
namespace Go.Proofs.YtfpghdcjdnifcaaGreat
open Go Go.Sl Go.IntWalk
set_option maxHeartbeats 8000000
set_option maxRecDepth 20000
set_option linter.unusedVariables false
theorem write_okP {d : Dv} (hd : d.Ok) (i : Int) {bs : List Int} (hu : u8ok bs) : (d.write i bs).1.Ok := by
 unfold Dv.write
 split
 ·
  split
  ·
   rename_i h16
   exact hd.setLater (.inr ⟨by rw [sealB_len]; omega, sealB_ok hu⟩)
  · exact hd
 · exact hd
theorem write_keep (d : Dv) (i : Int) (bs : List Int) : (d.write i bs).1.lasts.length = d.lasts.length ∧ (d.write i bs).1.head = d.head := by
 unfold Dv.write
 split
 · split <;> exact ⟨rfl, rfl⟩
 · exact ⟨rfl, rfl⟩
theorem turn_okP {d : Dv} (hd : d.Ok) (i place : Int) {by_ : Nat} (hb : by_ < 256) : (d.turn i place by_).1.Ok := by
 unfold Dv.turn
 split
 ·
  rename_i h
  obtain ⟨h1, h2⟩ := hd.last h.1
  exact hd.setLast ⟨by rw [flipB_len]; exact h1, flipB_ok h2 _ hb⟩
 · exact hd
theorem turn_keep (d : Dv) (i place : Int) (by_ : Nat) : (d.turn i place by_).1.lasts.length = d.lasts.length ∧ (d.turn i place by_).1.head = d.head := by
 unfold Dv.turn
 split
 · exact ⟨by simp [Dv.setLast], rfl⟩
 · exact ⟨rfl, rfl⟩
theorem settle_keep {σ : Type} (step : σ → σ × Bool) : ∀ (l : List Int) (s : Dv × σ), (settle step s l).1.lasts.length = s.1.lasts.length ∧ (settle step s l).1.head = s.1.head
 | [], s => ⟨rfl, rfl⟩
 | i :: l, s => by
  obtain ⟨h1, h2⟩ := settle_keep step l (settleF step s i)
  have h3 : (settleF step s i).1.lasts.length = s.1.lasts.length ∧ (settleF step s i).1.head = s.1.head := by
   unfold settleF Dv.settle1
   simp only
   split
   · exact ⟨by simp [Dv.setLast, Dv.setLater], rfl⟩
   · exact ⟨rfl, rfl⟩
  exact ⟨h1.trans h3.1, h2.trans h3.2⟩
theorem barrier_keep (d : Dv) (f t : Int) : (d.barrier f t).lasts.length = d.lasts.length ∧ (d.barrier f t).head = d.head := settle_keep allB _ (d, ())
theorem cOpen_ok {c : List Int} (hu : u8ok c) (h0 : (cOpen c).2 = 0) : u8ok (cOpen c).1 ∧ (cOpen c).1.length = 16 := by
 unfold cOpen at h0 ⊢
 split at h0
 · cases h0
 ·
  rename_i h20
  split at h0
  ·
   rename_i hs
   rw [if_neg h20, if_pos hs]
   exact ⟨fun x hx => hu x (List.mem_of_mem_take hx), by simp only [List.length_take]; omega⟩
  · cases h0
theorem read_ok {d : Dv} (hd : d.Ok) (i : Int) (h0 : (d.read i).2 = 0) : u8ok (d.read i).1 ∧ (d.read i).1.length = 16 := by
 unfold Dv.read at h0 ⊢
 split at h0
 ·
  rename_i hi
  rw [if_pos hi]
  split at h0
  ·
   rename_i hl
   rw [if_pos hl]
   exact cOpen_ok (hd.last hi).2 h0
  ·
   rename_i hl
   rw [if_neg hl]
   rcases hd.late hi with h | h
   · exact absurd h hl
   · exact cOpen_ok h.2 h0
 · cases h0
theorem sect_ok {bs : List Int} (h : u8ok bs) (k : Int) : u8ok (sect bs k) := by
 unfold sect
 split
 · exact fun x hx => h x (List.mem_of_mem_take hx)
 · exact fun x hx => h x (List.mem_of_mem_drop hx)
theorem data_ok {p : Pt} (hi : p.Inv) (m : Mc) : u8ok (m.data p) ∧ (m.data p).length ≤ 32 := by
 have h0 : u8ok [] ∧ ([] : List Int).length ≤ 32 := ⟨fun b hb => (by cases hb), by decide⟩
 unfold Mc.data
 split
 · exact h0
 ·
  split
  ·
   split
   ·
    rename_i i _
    have hg : (p.at_ i).Good ∨ p.at_ i = Fr.zero := by
     unfold Pt.at_
     split
     ·
      rename_i hr
      rw [List.getD_eq_getElem?_getD, List.getElem?_eq_getElem (show i.toNat < p.fs.length by omega), Option.getD_some]
      exact .inl (hi.good _ (List.getElem_mem _))
     · exact .inr rfl
    rcases hg with hg | hg
    ·
     obtain ⟨g1, -, -, g4⟩ := hg
     refine ⟨sect_ok g4 _, ?_⟩
     unfold Fr.Ok at g1
     unfold sect
     split
     · simp only [List.length_take]; omega
     · simp only [List.length_drop]; omega
    ·
     rw [hg]
     refine ⟨sect_ok zeros_ok _, ?_⟩
     unfold sect
     split
     · simp only [Fr.zero, List.length_take, List.length_replicate]; omega
     · simp only [Fr.zero, List.length_drop, List.length_replicate]; omega
   · exact h0
  · exact h0
def Te.at (e : Te) : Int := 2 * e.t.m.io.2.1 + e.t.m.io.2.2
def Te.stp (e : Te) (now : Int) : Te :=
 if (nextB e.fl).2 = true then ⟨e.t.over 9 [] now, e.d, (nextB e.fl).1, e.kp⟩
 else if e.t.m.io.1 = 1 then ⟨e.t.over (e.d.read e.at).2 (e.d.read e.at).1 now, e.d, (nextB e.fl).1, e.kp⟩
 else if e.t.m.io.1 = 2 then ⟨e.t.over (e.d.write e.at (e.t.m.data e.t.p)).2 [] now, (e.d.write e.at (e.t.m.data e.t.p)).1, (nextB e.fl).1, e.kp⟩
 else ⟨e.t.over 0 [] now, e.d.barrier 0 e.d.lasts.length, (nextB e.fl).1, e.kp⟩
def Te.serve (e : Te) (now : Int) : Te := if e.t.m.todo = [] then e else e.stp now
def Pl.setE (p : Pl) (i : Int) (e : Te) : Pl := { p with l := p.l.set i.toNat e }
def Pl.ready (p : Pl) : Pl := if 1 < p.down then { p with down := p.down - 1 } else if p.epoch < 1073741824 then { p with down := 0, epoch := p.epoch + 1 } else { p with down := 1 }
def Pl.own (p : Pl) : Int := p.now % p.l.length
def Pl.tick (p : Pl) : Pl :=
 if p.down = 0 then { p.setE p.own ((p.tn p.own).serve p.now) with now := p.now + 1 } else { p.ready with now := p.now + 1 }
def Pl.sec (p : Pl) (i page k : Int) : Int := if ¬ p.in_ i then 1 else if page < 0 ∨ (p.tn i).t.pages ≤ page ∨ k < 0 ∨ 1 < k then 4 else 0
def Pl.turn (p : Pl) (i page k place : Int) (by_ : Nat) : Pl × Int :=
 if p.sec i page k ≠ 0 then (p, p.sec i page k) else (p.setE i { p.tn i with d := ((p.tn i).d.turn (2 * page + k) place by_).1 }, ((p.tn i).d.turn (2 * page + k) place by_).2)
def Pl.lasting (p : Pl) (i page k : Int) : List Int × Int := if p.sec i page k ≠ 0 then ([], p.sec i page k) else (p.tn i).d.lasting (2 * page + k)
def Pl.taken (p : Pl) (i : Int) : Pl := p.setT i (p.tn i).t.taken
theorem setT_setE (p : Pl) (i : Int) (t : Tn) : p.setT i t = p.setE i { p.tn i with t := t } := rfl
theorem setE_len (p : Pl) (i : Int) (e : Te) : (p.setE i e).l.length = p.l.length := by simp [Pl.setE]
theorem setE_get {p : Pl} {i : Nat} (hi : i < p.l.length) (e' : Te) {j : Nat} {e : Te} (h : (p.setE i e').l[j]? = some e) : (j = i ∧ e = e') ∨ (j ≠ i ∧ p.l[j]? = some e) := by
 unfold Pl.setE at h
 simp only [Int.toNat_natCast] at h
 rw [List.getElem?_set] at h
 split at h
 ·
  rename_i hj
  subst hj
  cases h
  exact .inl ⟨rfl, rfl⟩
 ·
  rename_i hj
  exact .inr ⟨Ne.symm hj, h⟩
structure Pl.Good (p : Pl) : Prop where
 inv : p.Inv
 pg : ∀ e ∈ p.l, PgT e.t
theorem Pl.Good.tn {p : Pl} (h : p.Good) {i : Nat} (hi : i < p.l.length) : PgT (p.tn i).t := by rw [Pl.tn_get hi]; exact h.pg _ (List.getElem_mem hi)
theorem Pl.Inv.setE {p : Pl} (h : p.Inv) {i : Nat} (hi : i < p.l.length) {e' : Te} (hk : ∀ x, p.c.ps[i]? = some x → TeOk p.c.dp x e') : (p.setE i e').Inv :=
 ⟨h.ok, h.cin, by rw [setE_len]; exact h.len, fun j e x he hx => by
  rcases setE_get hi e' he with ⟨rfl, rfl⟩ | ⟨-, g⟩
  · exact hk x hx
  · exact h.te j e x g hx, h.ep, h.dn, h.now⟩
theorem Pl.Good.setE {p : Pl} (h : p.Good) {i : Nat} (hi : i < p.l.length) {e' : Te} (hk : ∀ x, p.c.ps[i]? = some x → TeOk p.c.dp x e') (hp : PgT e'.t) : (p.setE i e').Good := ⟨h.inv.setE hi hk, fun e he => by
 rcases List.mem_or_eq_of_mem_set he with he | rfl
 · exact h.pg e he
 · exact hp⟩
theorem Pl.Good.setT {p : Pl} (h : p.Good) {i : Nat} (hi : i < p.l.length) {t' : Tn} (h1 : TInv p.c.dp.toNat t') (h2 : t'.pages = (p.tn i).t.pages) (h3 : t'.p.fs.length = (p.tn i).t.p.fs.length) (hp : PgT t') : (p.setT i t').Good := ⟨h.inv.setT hi h1 h2 h3, fun e he => by
 rcases List.mem_or_eq_of_mem_set he with he | rfl
 · exact h.pg e he
 · exact hp⟩
theorem stp_fed {dp : Int} {x : Cp} {e : Te} (h : TeOk dp x e) (now : Int) : Fed e.t.m 9 [] ∧ (e.t.m.io.1 = 1 → Fed e.t.m (e.d.read e.at).2 (e.d.read e.at).1) ∧ (e.t.m.io.1 ≠ 1 → ∀ k, Fed e.t.m k []) :=
 ⟨fun h => absurd h (by decide), fun _ h0 => .inl (read_ok h.dk _ h0), fun hk _ _ => .inr ⟨hk, rfl⟩⟩
theorem Te.stp_keep (e : Te) (now : Int) : (e.stp now).t.ids = e.t.ids ∧ (e.stp now).t.pages = e.t.pages ∧ (e.stp now).t.p.fs.length = e.t.p.fs.length ∧ (e.stp now).d.lasts.length = e.d.lasts.length ∧ (e.stp now).kp = e.kp := by
 unfold Te.stp
 split
 · exact ⟨over_ids .., (over_same ..).2, (over_same ..).1, rfl, rfl⟩
 ·
  split
  · exact ⟨over_ids .., (over_same ..).2, (over_same ..).1, rfl, rfl⟩
  ·
   split
   · exact ⟨over_ids .., (over_same ..).2, (over_same ..).1, (write_keep ..).1, rfl⟩
   · exact ⟨over_ids .., (over_same ..).2, (over_same ..).1, (barrier_keep ..).1, rfl⟩
theorem TeOk.stp {dp : Int} {x : Cp} {e : Te} (h : TeOk dp x e) (hb : e.t.m.todo ≠ []) (now : Int) : TeOk dp x (e.stp now) := by
 obtain ⟨-, k2, k3, k4, -⟩ := e.stp_keep now
 obtain ⟨f1, f2, f3⟩ := stp_fed h now
 have ht : TInv dp.toNat (e.stp now).t ∧ (e.stp now).d.Ok := by
  unfold Te.stp
  split
  · exact ⟨fed_over h.ti hb f1 now, h.dk⟩
  ·
   split
   ·
    rename_i h1
    exact ⟨fed_over h.ti hb (f2 h1) now, h.dk⟩
   ·
    rename_i h1
    split
    · exact ⟨fed_over h.ti hb (f3 h1 _) now, write_okP h.dk _ (data_ok h.ti.mi.inv _).1⟩
    · exact ⟨fed_over h.ti hb (f3 h1 _) now, barrier_ok h.dk _ _⟩
 exact ⟨ht.1, by rw [k2]; exact h.pg, by rw [k3]; exact h.q, ht.2, by rw [k4]; exact h.dl⟩
theorem PgT.stp {e : Te} (h : PgT e.t) (now : Int) : PgT (e.stp now).t := by
 unfold Te.stp
 split
 · exact h.over _ _ _
 ·
  split
  · exact h.over _ _ _
  · split <;> exact h.over _ _ _
theorem Te.serve_keep (e : Te) (now : Int) : (e.serve now).t.ids = e.t.ids := by
 unfold Te.serve
 split
 · rfl
 · exact (e.stp_keep now).1
theorem TeOk.serve {dp : Int} {x : Cp} {e : Te} (h : TeOk dp x e) (now : Int) : TeOk dp x (e.serve now) := by
 unfold Te.serve
 split
 · exact h
 · rename_i hb; exact h.stp hb now
theorem PgT.serve {e : Te} (h : PgT e.t) (now : Int) : PgT (e.serve now).t := by
 unfold Te.serve
 split
 · exact h
 · exact h.stp now
theorem own_lt {p : Pl} (h : p.Inv) : ∃ j : Nat, p.own = (j : Int) ∧ j < p.l.length := by
 have h1 := h.ok.len.1
 have h2 := h.len
 have h3 := h.now
 unfold Pl.own
 have h4 := Int.emod_nonneg p.now (show (p.l.length : Int) ≠ 0 by omega)
 have h5 := Int.emod_lt_of_pos p.now (show 0 < (p.l.length : Int) by omega)
 exact ⟨(p.now % p.l.length).toNat, by omega, by omega⟩
theorem Pl.Good.now {p : Pl} (h : p.Good) {n : Int} (hn : 0 ≤ n) : ({ p with now := n } : Pl).Good := ⟨⟨h.inv.ok, h.inv.cin, h.inv.len, h.inv.te, h.inv.ep, h.inv.dn, hn⟩, h.pg⟩
theorem Pl.Good.ready {p : Pl} (h : p.Good) : p.ready.Good := by
 have h1 := h.inv.dn
 have h2 := h.inv.ep
 unfold Pl.ready
 split
 · exact ⟨⟨h.inv.ok, h.inv.cin, h.inv.len, h.inv.te, h.inv.ep, ⟨by simp only; omega, by simp only; omega⟩, h.inv.now⟩, h.pg⟩
 ·
  split
  · exact ⟨⟨h.inv.ok, h.inv.cin, h.inv.len, h.inv.te, ⟨by simp only; omega, by simp only; omega⟩, ⟨by simp only; omega, by simp only; omega⟩, h.inv.now⟩, h.pg⟩
  · exact ⟨⟨h.inv.ok, h.inv.cin, h.inv.len, h.inv.te, h.inv.ep, ⟨by simp only; omega, by simp only; omega⟩, h.inv.now⟩, h.pg⟩
theorem Pl.Good.serve {p : Pl} (h : p.Good) {i : Nat} (hi : i < p.l.length) (now : Int) : (p.setE i ((p.tn i).serve now)).Good := by
 obtain ⟨x, h1, -, h3⟩ := h.inv.at hi
 exact h.setE hi (fun x' hx' => by rw [h1] at hx'; cases hx'; exact h3.serve now) ((h.tn hi).serve now)
theorem Pl.Good.tick {p : Pl} (h : p.Good) : p.tick.Good := by
 have h1 := h.inv.now
 unfold Pl.tick
 split
 ·
  obtain ⟨j, hj, hlt⟩ := own_lt h.inv
  rw [hj]
  exact (h.serve hlt p.now).now (by omega)
 · exact h.ready.now (by omega)
theorem Pl.sec_in {p : Pl} {i page k : Int} (h : p.sec i page k = 0) : p.in_ i ∧ (0 ≤ page ∧ page < (p.tn i).t.pages) ∧ (0 ≤ k ∧ k ≤ 1) := by
 unfold Pl.sec at h
 split at h
 · cases h
 ·
  rename_i h1
  split at h
  · cases h
  ·
   rename_i h2
   exact ⟨Decidable.byContradiction h1, by omega, by omega⟩
theorem Pl.in_.in_nat {p : Pl} {i : Int} (h : p.in_ i) : ∃ j : Nat, i = (j : Int) ∧ j < p.l.length := ⟨i.toNat, by have := h.1; omega, by have := h.2; have := h.1; omega⟩
theorem Pl.Good.turn {p : Pl} (h : p.Good) (i page k place : Int) {by_ : Nat} (hb : by_ < 256) : (p.turn i page k place by_).1.Good := by
 unfold Pl.turn
 split
 · exact h
 ·
  rename_i h0
  obtain ⟨h1, h2, h3⟩ := Pl.sec_in (Decidable.byContradiction h0)
  obtain ⟨j, rfl, hj⟩ := h1.in_nat
  obtain ⟨x, g1, -, g3⟩ := h.inv.at hj
  exact h.setE hj (fun x' hx' => by
   rw [g1] at hx'
   cases hx'
   exact ⟨g3.ti, g3.pg, g3.q, turn_okP g3.dk _ _ hb, by simp only; rw [(turn_keep ..).1]; exact g3.dl⟩) (h.tn hj)
theorem Pl.Good.taken {p : Pl} (h : p.Good) {i : Int} (hi : p.in_ i) : (p.taken i).Good := by
 obtain ⟨j, rfl, hj⟩ := hi.in_nat
 obtain ⟨x, g1, -, g3⟩ := h.inv.at hj
 exact h.setT hj (taken_inv g3.ti) rfl rfl (h.tn hj).taken
theorem Pl.Good.submit {p : Pl} (h : p.Good) (i : Int) {q : Rq} (hu : u8ok q.data) : (p.submit i q).1.Good := by
 unfold Pl.submit
 split
 · exact h
 ·
  rename_i h1
  split
  · exact h
  ·
   obtain ⟨j, rfl, hj⟩ := (Decidable.byContradiction h1 : p.in_ i).in_nat
   obtain ⟨x, g1, -, g3⟩ := h.inv.at hj
   have hs := submit_same p.c.dp.toNat (p.tn j).t q p.now
   exact h.setT hj (submit_inv g3.ti (fun hc => check_ok hc hu) _) hs.2 hs.1 ((h.tn hj).submit q _)
theorem new_good {c : Cf} (h : c.Ok) (hin : c.In) (fs ks : List (List Bool)) : (Pl.new c fs ks).Good := ⟨new_pinv h hin fs ks, fun e he => by
 obtain ⟨i, hi, rfl⟩ := List.getElem_of_mem he
 have hi2 : i < c.ps.length := by rw [new_len] at hi; exact hi
 have h1 := new_at c fs ks i hi2
 rw [List.getElem?_eq_getElem hi] at h1
 rw [Option.some.inj h1]
 exact PgT.new _ (h.ps _ (List.getElem_mem hi2)).2.1.1⟩
def Pl.Upto (p : Pl) (n : Int) : Prop := ∀ e ∈ p.l, e.t.ids ≤ n
theorem Pl.Upto.tn {p : Pl} {n : Int} (h : p.Upto n) {i : Nat} (hi : i < p.l.length) : (p.tn i).t.ids ≤ n := by rw [Pl.tn_get hi]; exact h _ (List.getElem_mem hi)
theorem Pl.Upto.le {p : Pl} {n m : Int} (h : p.Upto n) (hm : n ≤ m) : p.Upto m := fun e he => Int.le_trans (h e he) hm
theorem Pl.Upto.setE {p : Pl} {n : Int} (h : p.Upto n) {i : Int} {e : Te} (he : e.t.ids ≤ n) : (p.setE i e).Upto n := fun f hf => by
 rcases List.mem_or_eq_of_mem_set hf with hf | rfl
 · exact h f hf
 · exact he
theorem Pl.Upto.tick {p : Pl} {n : Int} (hg : p.Inv) (h : p.Upto n) : p.tick.Upto n := by
 unfold Pl.tick
 split
 ·
  obtain ⟨j, hj, hlt⟩ := own_lt hg
  rw [hj]
  exact Pl.Upto.setE (p := p) h (by rw [Te.serve_keep]; exact h.tn hlt)
 ·
  unfold Pl.ready
  split
  · exact h
  · split <;> exact h
theorem Pl.Upto.turn {p : Pl} {n : Int} (h : p.Upto n) (i page k place : Int) (by_ : Nat) : (p.turn i page k place by_).1.Upto n := by
 unfold Pl.turn
 split
 · exact h
 ·
  rename_i h0
  obtain ⟨j, rfl, hj⟩ := (Pl.sec_in (Decidable.byContradiction h0)).1.in_nat
  exact h.setE (h.tn hj)
theorem Pl.Upto.taken {p : Pl} {n : Int} (h : p.Upto n) {i : Int} (hi : p.in_ i) : (p.taken i).Upto n := by
 obtain ⟨j, rfl, hj⟩ := hi.in_nat
 exact Pl.Upto.setE (p := p) h (h.tn hj)
theorem submit_ids_le (d : Nat) (t : Tn) (q : Rq) (tick : Int) : (t.submit d q tick).1.ids ≤ t.ids + 1 := by
 unfold Tn.submit
 split
 · simp only; omega
 ·
  split
  · simp only; omega
  ·
   simp only [Tn.go]
   rw [run_ids]
   exact Int.le_refl _
theorem Pl.Upto.submit {p : Pl} {n : Int} (h : p.Upto n) (hn : 0 ≤ n) (i : Int) (q : Rq) : (p.submit i q).1.Upto (n + 1) := by
 unfold Pl.submit
 split
 · exact h.le (by omega)
 ·
  rename_i h1
  split
  · exact h.le (by omega)
  ·
   obtain ⟨j, rfl, hj⟩ := (Decidable.byContradiction h1 : p.in_ i).in_nat
   refine Pl.Upto.setE (p := p) (h.le (by omega)) ?_
   have h2 := submit_ids_le p.c.dp.toNat (p.tn j).t q p.now
   have h3 := h.tn hj
   simp only
   omega
theorem new_upto {c : Cf} (fs ks : List (List Bool)) : (Pl.new c fs ks).Upto 0 := fun e he => by
 obtain ⟨i, hi, rfl⟩ := List.getElem_of_mem he
 have hi2 : i < c.ps.length := by rw [new_len] at hi; exact hi
 have h1 := new_at c fs ks i hi2
 rw [List.getElem?_eq_getElem hi] at h1
 rw [Option.some.inj h1]
 exact Int.le_refl 0
theorem DCut.of {p : Pl} {D : Dv} (h : DCut p D) (hg : p.Inv) {i : Nat} {e : Te} {x : Cp} (he : p.l[i]? = some e) (hx : p.c.ps[i]? = some x) : CutOf x.b.toNat (2 * x.p).toNat D e.d := by
 have hk := hg.te i e x he hx
 have ho := hg.ok.part hx
 have hn := h.n
 have hdl := hk.dl
 unfold Cp.Ok Cp.to at ho
 have hc := h.cut i e x he hx
 exact ⟨by omega, by rw [hk.dk.len]; omega, by omega, h.ok.len, fun k hk => (hc k (by omega)).1, fun k hk => (hc k (by omega)).2⟩
theorem CutOf.dcut {x : Cp} {D : Dv} {d : Dv} (h : CutOf x.b.toNat (2 * x.p).toNat D d) : ∀ k : Nat, (k : Int) < 2 * x.p → D.lasts[x.b.toNat + k]? = d.lasts[k]? ∧ D.later[x.b.toNat + k]? = d.later[k]? :=
 fun k hk => ⟨h.la k (by omega), h.lt k (by omega)⟩
theorem ap_at {c : Cf} (h : c.Ok) {i j : Nat} (hne : i ≠ j) {x y : Cp} (hx : c.ps[i]? = some x) (hy : c.ps[j]? = some y) : Apart x y := by
 obtain ⟨hi, hxi⟩ := List.getElem?_eq_some_iff.1 hx
 obtain ⟨hj, hyj⟩ := List.getElem?_eq_some_iff.1 hy
 have hp := List.pairwise_iff_getElem.1 h.ap
 rcases Nat.lt_or_ge i j with hlt | hge
 ·
  have := hp i j hi hj hlt
  rw [hxi, hyj] at this
  exact this
 ·
  have := hp j i hj hi (by omega)
  rw [hxi, hyj] at this
  exact this.symm
theorem DCut.setE {p : Pl} {D D' : Dv} (h : DCut p D) (hg : p.Inv) {i : Nat} (hi : i < p.l.length) {x : Cp} (hx : p.c.ps[i]? = some x) {e' : Te} (ok : D'.Ok) (keep : D'.lasts.length = D.lasts.length ∧ D'.head = D.head) (own : CutOf x.b.toNat (2 * x.p).toNat D' e'.d)
  (oth : ∀ (b n : Nat) (d : Dv), ((b : Int) + n ≤ x.b ∨ x.b + 2 * x.p ≤ b) → CutOf b n D d → CutOf b n D' d) : DCut (p.setE i e') D' := by
 refine ⟨ok, by rw [keep.1]; exact h.n, by rw [keep.2]; exact h.head, fun j e y he hy => ?_⟩
 have hy' : p.c.ps[j]? = some y := hy
 rcases setE_get hi e' he with ⟨rfl, rfl⟩ | ⟨hne, g⟩
 ·
  rw [hx] at hy'
  cases hy'
  exact own.dcut
 ·
  have ha := ap_at hg.ok hne hy' hx
  have oy := hg.ok.part hy'
  have ox := hg.ok.part hx
  unfold Cp.Ok Apart Cp.to at *
  exact (oth _ _ _ (by omega) (h.of hg g hy')).dcut
def Te.dstp (e : Te) (b : Int) (D : Dv) : Dv := if (nextB e.fl).2 = true then D else if e.t.m.io.1 = 1 then D else if e.t.m.io.1 = 2 then (D.write (b + e.at) (e.t.m.data e.t.p)).1 else D.barrier b (b + e.d.lasts.length)
theorem io_ok {t : Tn} (h : PgT t) (hb : t.m.todo ≠ []) : IoOk t.pages t.m.io := by
 unfold Mc.io
 cases ht : t.m.todo with
 | nil => exact absurd ht hb
 | cons y ys => exact h.pm.td y (by rw [ht]; exact List.mem_cons_self ..)
theorem at_range {dp : Int} {x : Cp} {e : Te} (h : TeOk dp x e) (hp : PgT e.t) (hb : e.t.m.todo ≠ []) (h3 : e.t.m.io.1 = 1 ∨ e.t.m.io.1 = 2) (hxp : 1 ≤ x.p) : 0 ≤ e.at ∧ e.at < ((2 * x.p).toNat : Int) := by
 have hi := io_ok hp hb
 have hpg := h.pg
 unfold IoOk In0 at hi
 unfold Te.at
 omega
theorem DCut.stp {p : Pl} {D : Dv} (h : DCut p D) (hg : p.Good) {i : Nat} (hi : i < p.l.length) {x : Cp} (hx : p.c.ps[i]? = some x) (hb : (p.tn i).t.m.todo ≠ []) (now : Int) : DCut (p.setE i ((p.tn i).stp now)) ((p.tn i).dstp x.b D) := by
 have hpe : p.l[i]? = some (p.tn i) := by rw [Pl.tn_get hi]; exact List.getElem?_eq_getElem hi
 have hk := hg.inv.te i _ x hpe hx
 have hc := h.of hg.inv hpe hx
 have ox := hg.inv.ok.part hx
 unfold Cp.Ok Cp.to at ox
 have hr := fun h3 => at_range hk (hg.tn hi) hb h3 ox.2.1.1
 have hdl := hk.dl
 have hda := data_ok hk.ti.mi.inv (p.tn i).t.m
 unfold Te.dstp Te.stp
 have e1 : ((x.b.toNat : Nat) : Int) = x.b := by omega
 split
 · exact h.setE hg.inv hi hx h.ok ⟨rfl, rfl⟩ hc (fun _ _ _ _ h => h)
 ·
  split
  · exact h.setE hg.inv hi hx h.ok ⟨rfl, rfl⟩ hc (fun _ _ _ _ h => h)
  ·
   split
   ·
    rename_i h2
    have hr2 := hr (.inr h2)
    have hw := (hc.write hr2 ((p.tn i).t.m.data (p.tn i).t.p)).1
    rw [e1] at hw
    exact h.setE hg.inv hi hx (write_okP h.ok _ hda.1) (write_keep ..) hw (fun b n d hbn hcd => hcd.writeO (by omega) _)
   ·
    have hw := hc.barrier
    rw [e1, show (((2 * x.p).toNat : Nat) : Int) = ((p.tn i).d.lasts.length : Int) by omega] at hw
    exact h.setE hg.inv hi hx (barrier_ok h.ok _ _) (barrier_keep ..) hw (fun b n d hbn hcd => hcd.barrierO (by omega))
end Go.Proofs.YtfpghdcjdnifcaaGreat
namespace Go.Proofs.YtfpghdcjdnifcaaGreat
open Go Go.Sl Go.IntWalk
set_option maxHeartbeats 8000000
set_option maxRecDepth 20000
set_option linter.unusedVariables false
theorem PlT.cutE {p : Pl} {al : Option Addr} {bts bps bfs bks : List Nat} {Ho Ht Hp Hf Hk : HL} (h : PlT p al bts bps bfs bks Ho Ht Hp Hf Hk) {i : Nat} (hi : i < p.l.length) : ∃ bt bp bf bk T1 Ti T2 P1 Pi P2 F1 Fi F2 K1 Ki K2,
  (bts[i]? = some bt ∧ bps[i]? = some bp ∧ bfs[i]? = some bf ∧ bks[i]? = some bk) ∧ (Ht = T1 ++ (Ti ++ T2) ∧ Hp = P1 ++ (Pi ++ P2) ∧ Hf = F1 ++ (Fi ++ F2) ∧ Hk = K1 ++ (Ki ++ K2)) ∧
  (TAt p.c.dp.toNat (p.tn i).t bt bp Ti ∧ PtAt (p.tn i).t.p bp Pi ∧ StAt (p.tn i).fl bf Fi ∧ StAt (p.tn i).kp bk Ki) ∧
  ∀ e' Ti' Pi' Fi' Ki', TAt p.c.dp.toNat e'.t bt bp Ti' → PtAt e'.t.p bp Pi' → StAt e'.fl bf Fi' → StAt e'.kp bk Ki' → PlT (p.setE i e') al bts bps bfs bks Ho (T1 ++ (Ti' ++ T2)) (P1 ++ (Pi' ++ P2)) (F1 ++ (Fi' ++ F2)) (K1 ++ (Ki' ++ K2)) := by
 obtain ⟨h1, h2, h3, h4⟩ := h.lens
 rw [Pl.tn_get hi]
 have hbp : bps[i]? = some bps[i] := List.getElem?_eq_getElem _
 obtain ⟨bt, T1, Ti, T2, t1, t2, t3, t4⟩ := h.ts.split (i := i) (by simp only [List.length_zip, List.length_map]; omega)
 obtain ⟨bp, P1, Pi, P2, p1, p2, p3, p4⟩ := h.ps.split (i := i) (by simpa using hi)
 obtain ⟨bf, F1, Fi, F2, f1, f2, f3, f4⟩ := h.fs.split (i := i) (by simpa using hi)
 obtain ⟨bk, K1, Ki, K2, k1, k2, k3, k4⟩ := h.ks.split (i := i) (by simpa using hi)
 rw [hbp] at p1
 cases p1
 refine ⟨bt, bps[i], bf, bk, T1, Ti, T2, P1, Pi, P2, F1, Fi, F2, K1, Ki, K2, ⟨t1, hbp, f1, k1⟩, ⟨t2, p2, f2, k2⟩, ⟨by simpa using t3, by simpa using p3, by simpa using f3, by simpa using k3⟩, fun e' Ti' Pi' Fi' Ki' g1 g2 g3 g4 => ?_⟩
 have hset : ∀ {β : Type} (f : Te → β), (p.setE i e').l.map f = (p.l.map f).set i (f e') := fun f => by
  unfold Pl.setE
  simp only [Int.toNat_natCast]
  rw [List.map_set]
 refine ⟨?_, ?_, ?_, ?_, ?_⟩
 · rw [setE_len]; exact h.own
 ·
  rw [hset, zip_set _ _ _ _ _ hbp]
  exact t4 (e'.t, bps[i]) Ti' g1
 ·
  rw [hset]
  exact p4 e'.t.p Pi' g2
 ·
  rw [hset]
  exact f4 e'.fl Fi' g3
 ·
  rw [hset]
  exact k4 e'.kp Ki' g4
theorem PlK.setE {p : Pl} {ac : Option Addr} {cc bs ba bl ca : Nat} {la : List Value} {bps : List Nat} {Hk : HL} (h : PlK p ac cc bs ba bl ca la bps Hk) (i : Int) (e' : Te) : PlK (p.setE i e') ac cc bs ba bl ca la bps Hk := by
 refine ⟨?_, ?_, ?_⟩ <;> rw [setE_len]
 · exact h.cs
 · exact h.ar
 · exact h.n
theorem PlT.num {p p' : Pl} {al : Option Addr} {bts bps bfs bks : List Nat} {Ho Ht Hp Hf Hk : HL} (h : PlT p al bts bps bfs bks Ho Ht Hp Hf Hk) (hl : p'.l = p.l) (hc : p'.c = p.c) : PlT p' al bts bps bfs bks Ho Ht Hp Hf Hk := by
 obtain ⟨a1, a2, a3, a4, a5⟩ := h
 exact ⟨by rw [hl]; exact a1, by rw [hl, hc]; exact a2, by rw [hl]; exact a3, by rw [hl]; exact a4, by rw [hl]; exact a5⟩
theorem PlK.num {p p' : Pl} {ac : Option Addr} {cc bs ba bl ca : Nat} {la : List Value} {bps : List Nat} {Hk : HL} (h : PlK p ac cc bs ba bl ca la bps Hk) (hl : p'.l.length = p.l.length) (hc : p'.c = p.c) : PlK p' ac cc bs ba bl ca la bps Hk := by
 obtain ⟨a1, a2, a3⟩ := h
 exact ⟨by rw [hl, hc]; exact a1, by rw [hl]; exact a2, by rw [hl]; exact a3⟩
theorem DCut.num {p p' : Pl} {D : Dv} (h : DCut p D) (hl : p'.l = p.l) (hc : p'.c = p.c) (he : p'.epoch = p.epoch) : DCut p' D := ⟨h.ok, by rw [hc]; exact h.n, by rw [he, hc]; exact h.head, by rw [hl, hc]; exact h.cut⟩
def Cf.sec (c : Cf) (i page k : Int) : Int × Int := match c.ps[i.toNat]? with
 | none => (0, 1)
 | some x => if i < 0 then (0, 1) else if page < 0 ∨ x.p ≤ page ∨ k < 0 ∨ 1 < k then (0, 4) else (x.b + page * 2 + k, 0)
def Cf.range (c : Cf) (i : Nat) : Int × Int := match c.ps[i]? with
 | none => (0, 0)
 | some x => (x.b, x.to)
end Go.Proofs.YtfpghdcjdnifcaaGreat
namespace Go.Proofs.YtfpghdcjdnifcaaGreat
open Go Go.Sl Go.IntWalk
set_option maxHeartbeats 8000000
set_option maxRecDepth 20000
set_option linter.unusedVariables false
def gpart (a : Int) (x : Cp) : Cp := ⟨1 + around x.q 3, a + around x.b 3, 1 + around x.p 4⟩
def gparts : Int → List Cp → List Cp
 | _, [] => []
 | a, x :: r => gpart a x :: gparts (gpart a x).to r
def gat : Int → List Cp → Int
 | a, [] => a
 | a, x :: r => gat (gpart a x).to r
def gbase (c : Cf) : List Cp := if c.ps.take 4 = [] then [⟨0, 0, 0⟩] else c.ps.take 4
def gcf (c : Cf) : Cf := ⟨sumq (gparts 0 (gbase c)), 1 + around c.dp 4, gat 0 (gbase c) + around c.se 3, gparts 0 (gbase c)⟩
theorem gparts_ok : ∀ (l : List Cp) (a : Int), 0 ≤ a → (gparts a l).length = l.length ∧ (∀ x ∈ gparts a l, (1 ≤ x.q ∧ x.q ≤ 3) ∧ (1 ≤ x.p ∧ x.p ≤ 4) ∧ a ≤ x.b ∧ x.to ≤ gat a l) ∧ (gparts a l).Pairwise Apart ∧ a ≤ gat a l ∧ gat a l ≤ a + 10 * (l.length : Int)
 | [], a, h => ⟨rfl, fun x hx => by simp [gparts] at hx, by simp [gparts], by simp [gat], by simp [gat]⟩
 | x :: r, a, h => by
  have r1 := around_range x.q 3 (by decide)
  have r2 := around_range x.b 3 (by decide)
  have r3 := around_range x.p 4 (by decide)
  have ht : (gpart a x).to = a + around x.b 3 + (1 + around x.p 4) * 2 := rfl
  obtain ⟨h1, h2, h3, h4, h5⟩ := gparts_ok r (gpart a x).to (by omega)
  refine ⟨by simp [gparts, h1], fun y hy => ?_, List.pairwise_cons.2 ⟨fun y hy => .inl (h2 y hy).2.2.1, h3⟩, by rw [gat]; omega, by rw [gat, List.length_cons]; omega⟩
  rcases List.mem_cons.1 hy with rfl | hy
  · refine ⟨⟨?_, ?_⟩, ⟨?_, ?_⟩, ?_, h4⟩ <;> simp only [gpart] <;> omega
  ·
   have := h2 y hy
   exact ⟨this.1, this.2.1, by omega, this.2.2.2⟩
theorem gcf_ok (c : Cf) : (gcf c).Ok := by
 have hl : 1 ≤ (gbase c).length ∧ (gbase c).length ≤ 4 := by
  unfold gbase
  split
  · exact ⟨by decide, by decide⟩
  ·
   rename_i h
   exact ⟨List.length_pos_iff.2 h, by rw [List.length_take]; omega⟩
 obtain ⟨h1, h2, h3, h4, h5⟩ := gparts_ok (gbase c) 0 (by decide)
 have r1 := around_range c.dp 4 (by decide)
 have r2 := around_range c.se 3 (by decide)
 have hs : ∀ {l : List Cp}, (∀ x ∈ l, 1 ≤ x.q ∧ x.q ≤ 3) → (l.length : Int) ≤ sumq l ∧ sumq l ≤ 3 * (l.length : Int) := by
  intro l
  induction l with
  | nil => intro _; simp [sumq]
  | cons x l ih =>
   intro h
   have i1 := ih fun y hy => h y (List.mem_cons_of_mem _ hy)
   have i2 := h x (List.mem_cons_self ..)
   simp only [sumq, List.map_cons, List.sum_cons, List.length_cons] at i1 ⊢
   omega
 have hq := hs fun x hx => (h2 x hx).1
 have hg : ∀ x ∈ gparts 0 (gbase c), x.to ≥ x.b + 2 := fun x hx => by have := (h2 x hx).2.1; unfold Cp.to; omega
 have hse : 1 ≤ gat 0 (gbase c) := by
  obtain ⟨x, hx⟩ := List.exists_mem_of_length_pos (show 0 < (gparts 0 (gbase c)).length by omega)
  have := h2 x hx
  have := hg x hx
  omega
 exact ⟨by show 1 ≤ (gparts 0 (gbase c)).length ∧ (gparts 0 (gbase c)).length ≤ 16; omega, by show 1 ≤ sumq (gparts 0 (gbase c)) ∧ sumq (gparts 0 (gbase c)) ≤ 64; omega, by show 1 ≤ 1 + around c.dp 4 ∧ 1 + around c.dp 4 ≤ 8; omega, by show 1 ≤ gat 0 (gbase c) + around c.se 3 ∧ gat 0 (gbase c) + around c.se 3 ≤ 1024; omega, fun x hx => by
  have := h2 x hx
  have hx2 : x.to ≤ gat 0 (gbase c) + around c.se 3 := by omega
  exact ⟨by omega, by omega, by omega, hx2⟩, h3, rfl⟩
theorem gcf_len (c : Cf) : (gcf c).ps.length ≤ 4 := by
 have := (gparts_ok (gbase c) 0 (by decide)).1
 have h2 : (gbase c).length ≤ 4 := by
  unfold gbase
  split
  · decide
  · rw [List.length_take]; omega
 show (gparts 0 (gbase c)).length ≤ 4
 omega
end Go.Proofs.YtfpghdcjdnifcaaGreat
namespace Go.Proofs.YtfpghdcjdnifcaaGreat
open Go Go.Sl Go.IntWalk
set_option maxHeartbeats 8000000
set_option maxRecDepth 20000
set_option linter.unusedVariables false
structure Gt where
 p : Pl
 tabs : List Tb
def noTb : Tb := ⟨0, 0, []⟩
def Gt.tab (g : Gt) (i : Int) : Tb := g.tabs.getD i.toNat noTb
structure Gt.Inv (g : Gt) : Prop where
 p : g.p.Inv
 len : g.tabs.length = g.p.l.length
 tb : ∀ t ∈ g.tabs, t.Inv ∧ t.e = g.p.epoch
def Gt.new (c : Cf) (fs ks : List (List Bool)) : Gt := ⟨Pl.new c fs ks, List.replicate c.ps.length (Tb.new 1)⟩
def inCells (bp : Nat) (ep : Int) (al : Option Addr) (n cl : Nat) : List Value := [.pointer (some ⟨bp, 0, none⟩), .int .i64 ep, .slice al n cl]
structure TbsAt (g : Gt) (bp : Nat) (al : Option Addr) (bts : List Nat) (Hp Hl Ht : HL) : Prop where
 pl : PlAt g.p bp Hp
 sl : RoSl 1 (ptrs bts) al g.p.l.length Hl
 tb : Piles TbAt g.tabs bts Ht
def InAt (g : Gt) (bx : Nat) (H : HL) : Prop := ∃ (bp : Nat) (al : Option Addr) (cl : Nat) (bts : List Nat) (Hp Hl Ht : HL), H = [(bx, Obj.cells (List.toArray (inCells bp g.p.epoch al g.p.l.length cl)) 136 (0, 0))] ++ (Hp ++ (Hl ++ Ht)) ∧ TbsAt g bp al bts Hp Hl Ht
def InOld (g : Gt) (bx : Nat) (H : HL) : Prop := ∃ (bp : Nat) (ep : Int) (al : Option Addr) (n cl : Nat) (Hp : HL), H = [(bx, Obj.cells (List.toArray (inCells bp ep al n cl)) 136 (0, 0))] ++ Hp ∧ PlAt g.p bp Hp ∧ ep ≠ g.p.epoch ∧ g.tabs = List.replicate g.p.l.length (Tb.new g.p.epoch)
def InAny (g : Gt) (bx : Nat) (H : HL) : Prop := InAt g bx H ∨ InOld g bx H
def GtAt (g : Gt) (b : Nat) (H : HL) : Prop := ∃ (bx : Nat) (Hx : HL), H = [(b, Obj.cells (List.toArray [.pointer (some ⟨bx, 0, none⟩)]) 138 (0, 0))] ++ Hx ∧ InAny g bx Hx
theorem InAny.pool {g : Gt} {bx : Nat} {H : HL} (h : InAny g bx H) : ∃ (bp : Nat) (ep : Int) (al : Option Addr) (n cl : Nat) (Hp Z : HL), H = [(bx, Obj.cells (List.toArray (inCells bp ep al n cl)) 136 (0, 0))] ++ (Hp ++ Z) ∧ PlAt g.p bp Hp := by
 rcases h with ⟨bp, al, cl, bts, Hp, Hl, Ht, rfl, h⟩ | ⟨bp, ep, al, n, cl, Hp, rfl, h, -⟩
 · exact ⟨bp, _, al, _, cl, Hp, Hl ++ Ht, rfl, h.pl⟩
 · exact ⟨bp, ep, al, n, cl, Hp, [], by simp, h⟩
end Go.Proofs.YtfpghdcjdnifcaaGreat
namespace Go.Proofs.YtfpghdcjdnifcaaGreat
open Go Go.Sl Go.IntWalk
set_option maxHeartbeats 4000000
set_option maxRecDepth 20000
set_option linter.unusedVariables false
end Go.Proofs.YtfpghdcjdnifcaaGreat
namespace Go.Proofs.YtfpghdcjdnifcaaGreat
open Go Go.Sl Go.IntWalk
set_option maxHeartbeats 8000000
set_option maxRecDepth 20000
set_option linter.unusedVariables false
def clsV (l : List Cl) : List Value := l.flatMap fun c => [c.v]
def ListIn (D : HL) (ls : List (List Int)) (a : Option Addr) : Prop := ∃ (cls : List Cl) (r : HL), cls.map Cl.xs = ls ∧ RoSl 1 (clsV cls) a ls.length r ∧ (∀ q ∈ r, q ∈ D) ∧ ∀ c ∈ cls, ClIn D c
theorem ListIn.mono {D D' : HL} {ls : List (List Int)} {a : Option Addr} (h : ListIn D ls a) (hs : ∀ q ∈ D, q ∈ D') : ListIn D' ls a := by
 obtain ⟨cls, r, h1, h2, h3, h4⟩ := h
 exact ⟨cls, r, h1, h2, fun q hq => hs q (h3 q hq), fun c hc => (h4 c hc).mono hs⟩
theorem ListIn.at_ {D : HL} {ls : List (List Int)} {a : Option Addr} (h : ListIn D ls a) {i : Nat} (hi : i < ls.length) :
  ∃ bx ox lx ex frx c, a = some ⟨bx, ox, none⟩ ∧ (bx, Obj.cells (List.toArray lx) ex frx) ∈ D ∧ lx[ox + i * 1]? = some (Cl.v c) ∧ c.xs = ls[i] ∧ ClIn D c := by
 obtain ⟨cls, r, rfl, h2, h3, h4⟩ := h
 rw [List.length_map] at h2 hi
 obtain ⟨bx, ox, lx, ex, frx, h5, h6, -, hld⟩ := RoSl.at (f := fun c : Cl => [c.v]) (m := 1) (fun _ => rfl) h2 hi
 exact ⟨bx, ox, lx, ex, frx, cls[i], h5, h3 _ (by rw [h6]; simp), hld 0 (by decide), by simp, h4 _ (List.getElem_mem hi)⟩
def DocD (d : Dv) (v : Value) (D : HL) : Prop := ∃ a c at_ ct ah ch, v = .agg (List.toArray [.slice a d.lasts.length c, .slice at_ d.later.length ct, .slice ah d.head.length ch]) ∧ ListIn D d.lasts a ∧ ListIn D d.later at_ ∧ ClIn D ⟨ah, ch, d.head⟩
theorem DocD.mono {d : Dv} {v : Value} {D D' : HL} (h : DocD d v D) (hs : ∀ q ∈ D, q ∈ D') : DocD d v D' := by
 obtain ⟨a, c, at_, ct, ah, ch, h1, h2, h3, h4⟩ := h
 exact ⟨a, c, at_, ct, ah, ch, h1, h2.mono hs, h3.mono hs, h4.mono hs⟩
end Go.Proofs.YtfpghdcjdnifcaaGreat
namespace Go.Proofs.YtfpghdcjdnifcaaGreat
open Go Go.Sl Go.IntWalk
set_option maxHeartbeats 8000000
set_option maxRecDepth 20000
set_option linter.unusedVariables false
end Go.Proofs.YtfpghdcjdnifcaaGreat
namespace Go.Proofs.YtfpghdcjdnifcaaGreat
open Go Go.Sl Go.IntWalk
set_option maxHeartbeats 8000000
set_option maxRecDepth 20000
set_option linter.unusedVariables false
end Go.Proofs.YtfpghdcjdnifcaaGreat
namespace Go.Proofs.YtfpghdcjdnifcaaGreat
open Go Go.Sl Go.IntWalk
set_option maxHeartbeats 8000000
set_option maxRecDepth 20000
set_option linter.unusedVariables false
def BlsIn (D : HL) (bs : List Bool) (a : Option Addr) : Prop := ∃ r, RoSl 1 (bls bs) a bs.length r ∧ ∀ q ∈ r, q ∈ D
theorem BlsIn.mono {D D' : HL} {bs : List Bool} {a : Option Addr} (h : BlsIn D bs a) (hs : ∀ q ∈ D, q ∈ D') : BlsIn D' bs a := by
 obtain ⟨r, h1, h2⟩ := h
 exact ⟨r, h1, fun q hq => hs q (h2 q hq)⟩
def DocS (bs : List Bool) (v : Value) (D : HL) : Prop := ∃ (a : Option Addr) (cap n : Nat), v = .agg (List.toArray [.slice a bs.length cap, .int .i64 (n : Int)]) ∧ bs.length ≤ cap ∧ n + bs.length ≤ 4294967296 ∧ BlsIn D bs a
theorem DocS.mono {bs : List Bool} {v : Value} {D D' : HL} (h : DocS bs v D) (hs : ∀ q ∈ D, q ∈ D') : DocS bs v D' := by
 obtain ⟨a, cap, n, h1, h2, h3, h4⟩ := h
 exact ⟨a, cap, n, h1, h2, h3, h4.mono hs⟩
end Go.Proofs.YtfpghdcjdnifcaaGreat
namespace Go.Proofs.YtfpghdcjdnifcaaGreat
open Go Go.Sl Go.IntWalk
set_option maxHeartbeats 8000000
set_option maxRecDepth 20000
set_option linter.unusedVariables false
end Go.Proofs.YtfpghdcjdnifcaaGreat
namespace Go.Proofs.YtfpghdcjdnifcaaGreat
open Go Go.Sl Go.IntWalk
set_option maxHeartbeats 8000000
set_option maxRecDepth 20000
set_option linter.unusedVariables false
end Go.Proofs.YtfpghdcjdnifcaaGreat
namespace Go.Proofs.YtfpghdcjdnifcaaGreat
open Go Go.Sl Go.IntWalk
set_option maxHeartbeats 8000000
set_option maxRecDepth 20000
set_option linter.unusedVariables false
def DocTe (dp : Nat) (e : Te) (l : List Value) (D : HL) : Prop := ∃ l1 l2 l3 l4, l = l1 ++ (l2 ++ (l3 ++ l4)) ∧ DocT dp e.t l1 D ∧ DocD e.d (.agg (List.toArray l2)) D ∧ DocS e.fl (.agg (List.toArray l3)) D ∧ DocS e.kp (.agg (List.toArray l4)) D
theorem DocTe.mono {dp : Nat} {e : Te} {l : List Value} {D D' : HL} (h : DocTe dp e l D) (hs : ∀ q ∈ D, q ∈ D') : DocTe dp e l D' := by
 obtain ⟨l1, l2, l3, l4, h1, h2, h3, h4, h5⟩ := h
 exact ⟨l1, l2, l3, l4, h1, h2.mono hs, h3.mono hs, h4.mono hs, h5.mono hs⟩
def Docs {α : Type} (P : α → List Value → HL → Prop) (D : HL) : List α → List (List Value) → Prop
 | [], ls => ls = []
 | e :: es, ls => ∃ l ls', ls = l :: ls' ∧ P e l D ∧ Docs P D es ls'
theorem Docs.mono {α : Type} {P : α → List Value → HL → Prop} {D D' : HL} (hp : ∀ e l, P e l D → P e l D') : ∀ {es : List α} {ls : List (List Value)}, Docs P D es ls → Docs P D' es ls
 | [], _, h => h
 | e :: es, _, h => by
  obtain ⟨l, ls', rfl, h1, h2⟩ := h
  exact ⟨l, ls', rfl, hp _ _ h1, h2.mono hp⟩
theorem Docs.snoc {α : Type} {P : α → List Value → HL → Prop} {D : HL} {e : α} {l : List Value} (he : P e l D) : ∀ {es : List α} {ls : List (List Value)}, Docs P D es ls → Docs P D (es ++ [e]) (ls ++ [l])
 | [], _, h => by rw [show _ = _ from h]; exact ⟨l, [], rfl, he, rfl⟩
 | x :: es, _, h => by
  obtain ⟨m, ls', rfl, h1, h2⟩ := h
  exact ⟨m, ls' ++ [l], rfl, h1, h2.snoc he⟩
theorem Docs.len {α : Type} {P : α → List Value → HL → Prop} {D : HL} : ∀ {es : List α} {ls : List (List Value)}, Docs P D es ls → ls.length = es.length
 | [], _, h => by rw [show _ = _ from h]; rfl
 | e :: es, _, h => by
  obtain ⟨l, ls', rfl, h1, h2⟩ := h
  simp [h2.len]
theorem Docs.at {α : Type} {P : α → List Value → HL → Prop} {D : HL} : ∀ {es : List α} {ls : List (List Value)} {i : Nat} (hi : i < es.length), Docs P D es ls → ∃ l, ls[i]? = some l ∧ P es[i] l D
 | [], _, _, hi, _ => absurd hi (by simp)
 | e :: es, _, 0, hi, h => by
  obtain ⟨l, ls', rfl, h1, h2⟩ := h
  exact ⟨l, rfl, h1⟩
 | e :: es, _, i + 1, hi, h => by
  obtain ⟨l, ls', rfl, h1, h2⟩ := h
  obtain ⟨m, g1, g2⟩ := Docs.at (i := i) (by simpa using hi) h2
  exact ⟨m, by simpa using g1, by simpa using g2⟩
def DocP (p : Pl) (l : List Value) (D : HL) : Prop := ∃ ac cc rc al cl ls rl, l = [.int .i64 p.c.fr, .int .i64 p.c.dp, .int .i64 p.c.se, .slice ac p.c.ps.length cc, .slice al p.l.length cl, .int .i64 p.now, .int .i64 p.epoch, .int .i64 p.down] ∧
 RoSl 3 (cps p.c.ps) ac p.c.ps.length rc ∧ (∀ q ∈ rc, q ∈ D) ∧ p.c.ps.length ≤ cc ∧ Docs (DocTe p.c.dp.toNat) D p.l ls ∧ RoSl 25 ls.flatten al p.l.length rl ∧ (∀ q ∈ rl, q ∈ D) ∧ p.l.length ≤ cl
def gds : Int → List Cs → List (Int × Int × Int)
 | _, [] => []
 | k, x :: r => (if x.u then [(k, x.g, x.o)] else []) ++ gds (k + 1) r
def gdL (x : Int × Int × Int) : List Value := [.int .i64 x.1, .int .i64 x.2.1, .int .i64 x.2.2]
def DocTb (t : Tb) (l : List Value) (D : HL) : Prop := ∃ a c r, l = [.int .i64 t.e, .int .i64 t.n, .slice a (gds 0 t.s).length c] ∧ RoSl 3 ((gds 0 t.s).flatMap gdL) a (gds 0 t.s).length r ∧ (∀ q ∈ r, q ∈ D) ∧ (gds 0 t.s).length ≤ c
def DocG (g : Gt) (l : List Value) (D : HL) : Prop := ∃ lp at_ ct ls rt, l = lp ++ [.slice at_ g.tabs.length ct, .int .i64 g.p.epoch] ∧ DocP g.p lp D ∧ Docs DocTb D g.tabs ls ∧ RoSl 3 ls.flatten at_ g.tabs.length rt ∧ (∀ q ∈ rt, q ∈ D) ∧ g.tabs.length ≤ ct
theorem DocP.mono {p : Pl} {l : List Value} {D D' : HL} (h : DocP p l D) (hs : ∀ q ∈ D, q ∈ D') : DocP p l D' := by
 obtain ⟨ac, cc, rc, al, cl, ls, rl, h1, h2, h3, h4, h5, h6, h7, h8⟩ := h
 exact ⟨ac, cc, rc, al, cl, ls, rl, h1, h2, fun q hq => hs q (h3 q hq), h4, h5.mono (fun _ _ h => h.mono hs), h6, fun q hq => hs q (h7 q hq), h8⟩
theorem DocTb.mono {t : Tb} {l : List Value} {D D' : HL} (h : DocTb t l D) (hs : ∀ q ∈ D, q ∈ D') : DocTb t l D' := by
 obtain ⟨a, c, r, h1, h2, h3, h4⟩ := h
 exact ⟨a, c, r, h1, h2, fun q hq => hs q (h3 q hq), h4⟩
theorem DocG.mono {g : Gt} {l : List Value} {D D' : HL} (h : DocG g l D) (hs : ∀ q ∈ D, q ∈ D') : DocG g l D' := by
 obtain ⟨lp, at_, ct, ls, rt, h1, h2, h3, h4, h5, h6⟩ := h
 exact ⟨lp, at_, ct, ls, rt, h1, h2.mono hs, h3.mono (fun _ _ h => h.mono hs), h4, fun q hq => hs q (h5 q hq), h6⟩
theorem Own.le {m e : Nat} {cs : List Value} {a : Option Addr} {len cap : Nat} {H : HL} (h : Own m e cs a len cap H) : len ≤ cap := by
 rcases h.2 with ⟨_, h1, h2, _⟩ | ⟨_, _, _, _, h1, _⟩ <;> omega
end Go.Proofs.YtfpghdcjdnifcaaGreat
namespace Go.Proofs.YtfpghdcjdnifcaaGreat
open Go Go.Sl Go.IntWalk
set_option maxHeartbeats 8000000
set_option maxRecDepth 20000
set_option linter.unusedVariables false
theorem Docs.set {α : Type} {P : α → List Value → HL → Prop} {D : HL} {e' : α} {l' : List Value} (he : P e' l' D) : ∀ {es : List α} {ls : List (List Value)} (i : Nat), Docs P D es ls → Docs P D (es.set i e') (ls.set i l')
 | [], _, i, h => by rw [show _ = _ from h]; exact rfl
 | e :: es, _, 0, h => by
  obtain ⟨l, ls', rfl, h1, h2⟩ := h
  exact ⟨l', ls', rfl, he, h2⟩
 | e :: es, _, i + 1, h => by
  obtain ⟨l, ls', rfl, h1, h2⟩ := h
  exact ⟨l, ls'.set i l', rfl, h1, Docs.set he i h2⟩
theorem Docs.lens {α : Type} {P : α → List Value → HL → Prop} {D : HL} {m : Nat} (hm : ∀ e l, P e l D → l.length = m) : ∀ {es : List α} {ls : List (List Value)}, Docs P D es ls → ∀ l ∈ ls, l.length = m
 | [], _, h => by rw [show _ = _ from h]; intro l hl; cases hl
 | e :: es, _, h => by
  obtain ⟨l, ls', rfl, h1, h2⟩ := h
  intro x hx
  rcases List.mem_cons.1 hx with rfl | hx
  · exact hm _ _ h1
  · exact Docs.lens hm h2 x hx
theorem flat_seg {m : Nat} : ∀ {ls : List (List Value)} {i : Nat} {l : List Value}, (∀ l ∈ ls, l.length = m) → ls[i]? = some l → (ls.flatten.drop (i * m)).take m = l
 | [], _, _, _, h => by simp at h
 | x :: ls, 0, l, h, hi => by
  have hl := h x (List.mem_cons_self ..)
  simp only [List.getElem?_cons_zero, Option.some.injEq] at hi
  subst hi
  rw [Nat.zero_mul, List.drop_zero, List.flatten_cons, List.take_append_of_le_length (by omega), List.take_of_length_le (by omega)]
 | x :: ls, i + 1, l, h, hi => by
  have hl := h x (List.mem_cons_self ..)
  have ih := flat_seg (ls := ls) (i := i) (l := l) (fun q hq => h q (List.mem_cons_of_mem _ hq)) (by simpa using hi)
  rw [show (i + 1) * m = x.length + i * m by rw [Nat.succ_mul, hl]; omega, List.flatten_cons, List.drop_append, List.drop_of_length_le (by omega), List.nil_append, show x.length + i * m - x.length = i * m by omega]
  exact ih
theorem arr_inj {l l' : List Value} (h : Value.agg l.toArray = .agg l'.toArray) : l = l' := by
 have := Value.agg.inj h
 simpa using this
theorem DocTe.cells {dp : Nat} {e : Te} {l : List Value} {D : HL} (h : DocTe dp e l D) : ∃ l1 a c at_ ct ah ch b1 m1 n1 b2 m2 n2, l = l1 ++ [.slice a e.d.lasts.length c, .slice at_ e.d.later.length ct, .slice ah e.d.head.length ch, .slice b1 e.fl.length m1, .int .i64 (n1 : Nat), .slice b2 e.kp.length m2, .int .i64 (n2 : Nat)] ∧
  l1.length = 18 ∧ DocT dp e.t l1 D ∧ DocD e.d (.agg #[.slice a e.d.lasts.length c, .slice at_ e.d.later.length ct, .slice ah e.d.head.length ch]) D ∧ DocS e.fl (.agg #[.slice b1 e.fl.length m1, .int .i64 (n1 : Nat)]) D ∧ DocS e.kp (.agg #[.slice b2 e.kp.length m2, .int .i64 (n2 : Nat)]) D := by
 obtain ⟨l1, l2, l3, l4, rfl, h1, h2, h3, h4⟩ := h
 have d2 := h2
 have d3 := h3
 have d4 := h4
 obtain ⟨a, c, at_, ct, ah, ch, e2, -⟩ := h2
 obtain ⟨b1, m1, n1, e3, -⟩ := h3
 obtain ⟨b2, m2, n2, e4, -⟩ := h4
 have f2 := arr_inj e2
 have f3 := arr_inj e3
 have f4 := arr_inj e4
 subst f2 f3 f4
 refine ⟨l1, a, c, at_, ct, ah, ch, b1, m1, n1, b2, m2, n2, rfl, ?_, h1, d2, d3, d4⟩
 obtain ⟨z1, z2, z3, z4, z5, z6, z7, z8, z9, z10, z11, z12, jl, z13, z14, z15, rfl, -⟩ := h1
 rfl
theorem DocTe.len {dp : Nat} {e : Te} {l : List Value} {D : HL} (h : DocTe dp e l D) : l.length = 25 := by
 obtain ⟨l1, a, c, at_, ct, ah, ch, b1, m1, n1, b2, m2, n2, rfl, h1, -⟩ := h.cells
 rw [List.length_append, h1]
 rfl
theorem RoSl.flat {m : Nat} {ls : List (List Value)} {a : Option Addr} {ro : HL} (hm : ∀ l ∈ ls, l.length = m) (h : RoSl m ls.flatten a ls.length ro) {i : Nat} {lt : List Value} (hi : ls[i]? = some lt) :
  ∃ bx ox lx ex frx, a = some ⟨bx, ox, none⟩ ∧ ro = [(bx, .cells (List.toArray lx) ex frx)] ∧ seg? lx (ox + i * m) m = some lt := by
 obtain ⟨hlt, -⟩ := List.getElem?_eq_some_iff.1 hi
 rcases h.2 with ⟨h0, -⟩ | ⟨b, off, l, e, fr, h1, h2, h3, h4⟩
 · omega
 ·
  have hmul : i * m + m ≤ ls.length * m := by
   rw [← Nat.succ_mul]; exact Nat.mul_le_mul_right m hlt
  refine ⟨b, off, l, e, fr, h1, h2, ?_⟩
  rw [seg?_of _ _ _ (by omega)]
  have h5 := flat_seg hm hi
  rw [← h4, List.drop_take, List.take_take, List.drop_drop, Nat.min_eq_left (by omega)] at h5
  rw [h5]
theorem DocTe.one {dp : Nat} {e : Te} {l : List Value} {D : HL} (h : DocTe dp e l D) : allOne l = true := by
 obtain ⟨l1, a, c, at_, ct, ah, ch, b1, m1, n1, b2, m2, n2, rfl, -, ⟨z1, z2, z3, z4, z5, z6, z7, z8, z9, z10, z11, z12, jl, z13, z14, z15, rfl, -⟩, -⟩ := h.cells
 rfl
theorem DocP.at {p : Pl} {l : List Value} {D : HL} (h : DocP p l D) {i : Nat} (hi : i < p.l.length) : ∃ bx ox cl lx ex frx lt, l[4]? = some (.slice (some ⟨bx, ox, none⟩) p.l.length cl) ∧ (bx, Obj.cells (List.toArray lx) ex frx) ∈ D ∧ seg? lx (ox + i * 25) 25 = some lt ∧ DocTe p.c.dp.toNat (p.tn i) lt D := by
 obtain ⟨ac, cc, rc, al, cl, ls, rl, rfl, h1, h2, h3, h4, h5, h6, h7⟩ := h
 obtain ⟨lt, g1, g2⟩ := Docs.at hi h4
 have hl := h4.len
 rw [← hl] at h5
 obtain ⟨bx, ox, lx, ex, frx, rfl, rfl, g3⟩ := RoSl.flat (Docs.lens (fun _ _ h => h.len) h4) h5 g1
 rw [Pl.tn_get hi]
 exact ⟨bx, ox, cl, lx, ex, frx, lt, rfl, h6 _ (List.mem_singleton.2 rfl), g3, g2⟩
end Go.Proofs.YtfpghdcjdnifcaaGreat
namespace Go.Proofs.YtfpghdcjdnifcaaGreat
open Go Go.Sl Go.IntWalk
set_option maxHeartbeats 8000000
set_option maxRecDepth 20000
set_option linter.unusedVariables false
theorem sec_out {c : Cf} {i : Int} (h : ¬ (0 ≤ i ∧ i < (c.ps.length : Int))) (page k : Int) : c.sec i page k = (0, 1) := by
 unfold Cf.sec
 split
 · rfl
 ·
  rename_i x hx
  rw [if_pos]
  have := (List.getElem?_eq_some_iff.1 hx).1
  omega
theorem sec_at {c : Cf} {i : Nat} {x : Cp} (h : c.ps[i]? = some x) (page k : Int) : c.sec i page k = if page < 0 ∨ x.p ≤ page ∨ k < 0 ∨ 1 < k then (0, 4) else (x.b + page * 2 + k, 0) := by
 unfold Cf.sec
 rw [Int.toNat_natCast, h]
 simp only
 rw [if_neg (by omega)]
theorem ExtSector_spec (c : Cf) (hok : c.Ok) (a : Option Addr) (cap : Nat) (ro : HL) (hro : RoSl 3 (cps c.ps) a c.ps.length ro) (i page k : Int) :
  Ctr Tryz.prog 111 [c.v a cap, .int .i64 i, .int .i64 page, .int .i64 k] [] ro (fun v L' => v = .tuple #[.int .i64 (c.sec i page k).1, .int .i64 (c.sec i page k).2] ∧ L' = []) := by
 rcases Classical.em (0 ≤ i ∧ i < (c.ps.length : Int)) with hin | hin
 case' inr =>
  rw [sec_out hin]
  refine Ctr.enter (n := 48) [.tmp 8, .tmp 9] [(0, _), (1, _), (2, _), (3, _)] Tryz.func111 rfl rfl rfl (lb rfl) Tryz.call111 ⟨rfl, rfl, rfl, rfl, trivial⟩ ?_
  intro cx fin fin0
  refine aG ?_
  repeat (first | refine gx ?_ | refine gN fun _ => ?_ | refine gB fun _ => ?_ | fail)
  rcases Classical.em (i < 0) with h1 | h1
  ·
   repeat refine gh h1 ?_
   refine W.order [] rfl ?_
   refine W.ret (fin _ _ (FinOk.first 0 (.tmp rfl (.tmp rfl .nil)) rfl ?_))
   exact ⟨rfl, rfl⟩
  ·
   have h2 : i ≥ (c.ps.length : Int) := by omega
   repeat refine gh (gc2 h1 h2) ?_
   refine W.order [] rfl ?_
   refine W.ret (fin _ _ (FinOk.first 0 (.tmp rfl (.tmp rfl .nil)) rfl ?_))
   exact ⟨rfl, rfl⟩
 obtain ⟨j, rfl⟩ : ∃ j : Nat, i = (j : Int) := ⟨i.toNat, by omega⟩
 have hlt : j < c.ps.length := by omega
 have h1 : ¬ (j : Int) < 0 := by omega
 have h2 : ¬ (j : Int) ≥ (c.ps.length : Int) := by omega
 obtain ⟨bx, ox, lx, ex, frx, rfl, rfl, hld⟩ := cps_at hro hlt
 rw [sec_at (List.getElem?_eq_getElem hlt)]
 have hx := hok.ps _ (List.getElem_mem hlt)
 have hse := hok.se
 generalize c.ps[j] = x at *
 unfold Cp.Ok Cp.to at hx
 generalize hout : (if page < 0 ∨ x.p ≤ page ∨ k < 0 ∨ 1 < k then ((0 : Int), (4 : Int)) else (x.b + page * 2 + k, 0)) = out
 refine Ctr.enter (n := 48) [.tmp 8, .tmp 9] [(0, _), (1, _), (2, _), (3, _)] Tryz.func111 rfl rfl rfl (lb rfl) Tryz.call111 ⟨rfl, rfl, rfl, rfl, trivial⟩ ?_
 intro cx fin fin0
 refine aG ?_
 repeat (first | refine gx ?_ | refine gN fun _ => ?_ | refine gB fun _ => ?_ | fail)
 repeat refine gh (gc2 h1 h2) ?_
 refine aV (OpVal.ixSl tab_ok rfl rfl rfl rfl rfl hlt) ?_
 refine aV (OpVal.load tab_ok rfl rh hld) ?_
 repeat (first | refine gx ?_ | refine gN fun _ => ?_ | refine gB fun _ => ?_ | fail)
 rcases Classical.em (page < 0) with g1 | g1
 ·
  rw [if_pos (.inl g1)] at hout
  subst hout
  repeat refine gh g1 ?_
  refine W.order [] rfl ?_
  refine W.ret (fin _ _ (FinOk.first 0 (.tmp rfl (.tmp rfl .nil)) rfl ?_))
  exact ⟨rfl, rfl⟩
 rcases Classical.em (page ≥ x.p) with g2 | g2
 ·
  rw [if_pos (.inr (.inl g2))] at hout
  subst hout
  repeat refine gh (gc2 g1 g2) ?_
  refine W.order [] rfl ?_
  refine W.ret (fin _ _ (FinOk.first 0 (.tmp rfl (.tmp rfl .nil)) rfl ?_))
  exact ⟨rfl, rfl⟩
 rcases Classical.em (k < 0) with g3 | g3
 ·
  rw [if_pos (.inr (.inr (.inl g3)))] at hout
  subst hout
  repeat refine gh (gc3 g1 g2 g3) ?_
  refine W.order [] rfl ?_
  refine W.ret (fin _ _ (FinOk.first 0 (.tmp rfl (.tmp rfl .nil)) rfl ?_))
  exact ⟨rfl, rfl⟩
 rcases Classical.em (k ≥ 2) with g4 | g4
 ·
  rw [if_pos (.inr (.inr (.inr (by omega))))] at hout
  subst hout
  repeat refine gh (gc4 g1 g2 g3 g4) ?_
  refine W.order [] rfl ?_
  refine W.ret (fin _ _ (FinOk.first 0 (.tmp rfl (.tmp rfl .nil)) rfl ?_))
  exact ⟨rfl, rfl⟩
 rw [if_neg (by omega)] at hout
 subst hout
 repeat refine gh (gc4 g1 g2 g3 g4) ?_
 refine aV (OpVal.mul rfl rfl (i64_in _ (by omega))) ?_
 repeat refine gx ?_
 refine W.order [] rfl ?_
 refine W.ret (fin _ _ (FinOk.first 0 (.tmp rfl (.tmp rfl .nil)) rfl ?_))
 exact ⟨rfl, rfl⟩
theorem ExtRange_spec (c : Cf) (hok : c.Ok) (a : Option Addr) (cap : Nat) (ro : HL) (hro : RoSl 3 (cps c.ps) a c.ps.length ro) (j : Nat) (x : Cp) (hj : c.ps[j]? = some x) :
  Ctr Tryz.prog 115 [c.v a cap, .int .i64 (j : Int)] [] ro (fun v L' => v = .tuple #[.int .i64 x.b, .int .i64 (x.b + 2 * x.p)] ∧ L' = []) := by
 obtain ⟨hlt, hxe⟩ := List.getElem?_eq_some_iff.1 hj
 have h1 : ¬ (j : Int) < 0 := by omega
 have h2 : ¬ (j : Int) ≥ (c.ps.length : Int) := by omega
 obtain ⟨bx, ox, lx, ex, frx, rfl, rfl, hld⟩ := cps_at hro hlt
 rw [hxe] at hld
 have hx := hok.part hj
 have hse := hok.se
 unfold Cp.Ok Cp.to at hx
 have e1 : x.b + x.p * 2 = x.b + 2 * x.p := by omega
 refine Ctr.enter (n := 29) [.tmp 4, .tmp 5] [(0, _), (1, _)] Tryz.func115 rfl rfl rfl (lb rfl) Tryz.call115 ⟨rfl, rfl, trivial⟩ ?_
 intro cx fin fin0
 refine aG ?_
 repeat (first | refine gx ?_ | refine gN fun _ => ?_ | refine gB fun _ => ?_ | fail)
 repeat refine gh (gc2 h1 h2) ?_
 refine aV (OpVal.ixSl tab_ok rfl rfl rfl rfl rfl hlt) ?_
 refine aV (OpVal.load tab_ok rfl rh hld) ?_
 repeat (first | refine gx ?_ | refine gN fun _ => ?_ | refine gB fun _ => ?_ | fail)
 refine W.drawH tab_ok 10 [.b false, .b false, .b false, .b false, .b false, .b false, .b false, .b false, .b false, .b false] [] follows (by decide +kernel) (by decide +kernel) rfl (by decide) rfl ?_
 intro _
 refine dG ?_
 refine gdx ?_
 refine dV (OpVal.mul rfl rfl (i64_in _ (by omega))) ?_
 refine gdx ?_
 refine WD.nil (W.dropNil (aG ?_))
 repeat refine gx ?_
 refine W.order [] rfl ?_
 refine W.ret (fin _ _ (FinOk.first 0 (.tmp rfl (.tmp rfl .nil)) rfl ?_))
 rw [e1]
 exact ⟨rfl, rfl⟩
theorem SOwner_spec (n : Nat) (hn : 1 ≤ n) (b : Nat) (now : Int) (h0 : 0 ≤ now) :
  Ctr Tryz.prog 109 [.pointer (some ⟨b, 0, none⟩), .int .i64 now] [] [(b, .cells #[.int .i64 (n : Int)] 238 (0, 0))] (fun v L' => v = .int .i64 (now % (n : Int)) ∧ L' = []) := by
 have e1 : now.tmod (n : Int) = now % (n : Int) := Int.tmod_eq_emod_of_nonneg h0
 refine Ctr.enter (n := 11) [.tmp 4] [(0, _), (1, _)] Tryz.func109 rfl rfl rfl (lb rfl) Tryz.call109 ⟨rfl, rfl, trivial⟩ ?_
 intro cx fin fin0
 refine aG ?_
 repeat refine gx ?_
 refine aV (OpVal.rem rfl rfl (by omega) e1) ?_
 repeat refine gx ?_
 refine W.ret (fin _ _ (FinOk.first 0 (.tmp rfl .nil) rfl ?_))
 exact ⟨rfl, rfl⟩
theorem splQ {P : Program} {n : Nat} {R : HL} {cx : Cx} {K : List Kont} {ρ : Env} {L M : List HL} {A B C D E F G I : HL} (h : L = (A ++ (B ++ (C ++ (D ++ (E ++ (F ++ (G ++ I))))))) :: M) (hk : W P n R cx K ρ (A :: B :: C :: D :: E :: F :: G :: I :: M)) : W P n R cx K ρ L := by
 subst h
 exact W.regroup (by simp) hk
end Go.Proofs.YtfpghdcjdnifcaaGreat
namespace Go.Proofs.YtfpghdcjdnifcaaGreat
open Go Go.Sl Go.IntWalk
set_option maxHeartbeats 8000000
set_option maxRecDepth 20000
set_option linter.unusedVariables false
theorem Serve1_spec (D : Dv) (hok : D.Ok) (bd : Nat) (Hd : HL) (hD : DevAt D bd Hd) (b7 b10 : Nat) (at_ : Int) :
  Ctr Tryz.prog 176 [.pointer (some ⟨b7, 0, none⟩), .pointer (some ⟨b10, 0, none⟩)] [] ((b7, Obj.cells #[.func (.func 173) #[.pointer (some ⟨bd, 0, none⟩)] #[]] 195 (0, 0)) :: (b10, Obj.cells #[.int .i64 at_] 3 (0, 0)) :: Hd) (TwoOwn (D.read at_)) := by
 have hR := DRead_spec D hok bd Hd hD at_
 generalize D.read at_ = out at *
 refine Ctr.enter (n := 9) [.tmp 2, .tmp 3] [(0, _), (1, _)] Tryz.func176 rfl rfl rfl (lb rfl) Tryz.call176 ⟨rfl, rfl, trivial⟩ ?_
 intro cx fin fin0
 refine aG ?_
 repeat refine gx ?_
 refine aC (o := hR) (h := ?_) (hro := RoIn.all (fun q hq => by simp [hq]))
 rintro _ _ ⟨a', c', H', rfl, rfl, ho⟩
 refine aG ?_
 repeat refine gx ?_
 refine W.ret (fin _ _ (FinOk.first 1 (.tmp rfl (.tmp rfl .nil)) rfl ?_))
 exact ⟨_, _, _, rfl, rfl, ho⟩
theorem Serve2_spec (D : Dv) (hok : D.Ok) (bd : Nat) (Hd : HL) (hD : DevAt D bd Hd) (b8 b10 b4 : Nat) (at_ : Int) (bt bf bk bm bp : Nat) (tc : List Value) (htc : tc[0]? = some (.pointer (some ⟨bm, 0, none⟩))) (m : Mc) (Hm : HL) (hm : MAt m bm bp Hm) (p : Pt) (hi : p.Inv) (Hp : HL) (hp : PtAt p bp Hp) (hk : m.io.1 = 2 → m.io.2.2 = 0 ∨ m.io.2.2 = 1) :
  Ctr Tryz.prog 177 [.pointer (some ⟨b8, 0, none⟩), .pointer (some ⟨b10, 0, none⟩), .pointer (some ⟨b4, 0, none⟩)] [Hd] ((b8, Obj.cells #[.func (.func 174) #[.pointer (some ⟨bd, 0, none⟩)] #[]] 277 (0, 0)) :: (b10, Obj.cells #[.int .i64 at_] 3 (0, 0)) :: (b4, Obj.cells #[.pointer (some ⟨bt, 0, none⟩), .pointer (some ⟨bf, 0, none⟩), .pointer (some ⟨bk, 0, none⟩)] 178 (0, 0)) :: (bt, Obj.cells (List.toArray tc) 252 (0, 0)) :: (Hm ++ Hp))
   (fun v L' => ∃ Hd', v = .tuple #[.slice none 0 0, .int .i64 (D.write at_ (m.data p)).2] ∧ L' = [Hd'] ∧ DevAt (D.write at_ (m.data p)).1 bd Hd') := by
 have hDa := Data_spec m bm bp Hm hm p hi Hp hp hk
 have hu := (data_ok hi m).1
 have hW := fun a n r hr => DWrite_spec D hok bd Hd hD at_ (m.data p) hu a n r hr
 generalize D.write at_ (m.data p) = out at *
 generalize m.data p = dat at *
 refine Ctr.enter (n := 14) [.tmp 3, .tmp 4] [(0, _), (1, _), (2, _)] Tryz.func177 rfl rfl rfl (lb rfl) Tryz.call177 ⟨rfl, rfl, rfl, trivial⟩ ?_
 intro cx fin fin0
 refine aG ?_
 repeat refine gx ?_
 refine W.drawH tab_ok 9 [.b false, .b false, .b false, .b false, .b false, .b false, .b false, .b true, .b true] [0] follows (by decide +kernel) (by decide +kernel) rfl (by decide) rfl ?_
 intro _
 refine dG ?_
 refine gdx ?_
 refine dV (OpVal.load tab_ok rfl (show At _ _ bt (.cells (List.toArray tc) 252 (0, 0)) from .inr (by simp)) htc) ?_
 refine gdx ?_
 refine dC (o := hDa) (h := ?_) (hro := (fun q hq => .inr (by simp at hq ⊢; simp [hq])))
 rintro _ _ ⟨a, n, c, H', rfl, rfl, hr, rfl⟩
 refine dG ?_
 refine dC (o := hW a c H' hr) (h := ?_) (hro := RoIn.own 0 rfl)
 rintro _ _ ⟨Hd2, rfl, rfl, hD2⟩
 refine dG ?_
 refine gdx ?_
 refine WD.nil (W.dropNil (aG ?_))
 refine W.order [0] rfl ?_
 refine W.ret (fin _ _ (FinOk.first 1 (.tmp rfl (.tmp rfl .nil)) rfl ?_))
 exact ⟨_, rfl, rfl, hD2⟩
theorem Serve3_spec (D : Dv) (hok : D.Ok) (bd : Nat) (Hd : HL) (hD : DevAt D bd Hd) (b9 b2 b3 b : Nat) (pc : List Value) (c : Cf) (hc : c.Ok) (a : Option Addr) (cap : Nat) (hpc : ldv? tab 24 pc 0 = some (c.v a cap)) (ro : HL) (hro : RoSl 3 (cps c.ps) a c.ps.length ro) (j : Nat) (x : Cp) (hj : c.ps[j]? = some x) :
  Ctr Tryz.prog 179 [.pointer (some ⟨b9, 0, none⟩), .pointer (some ⟨b2, 0, none⟩), .pointer (some ⟨b3, 0, none⟩)] [Hd] ((b9, Obj.cells #[.func (.func 175) #[.pointer (some ⟨bd, 0, none⟩)] #[]] 278 (0, 0)) :: (b2, Obj.cells #[.pointer (some ⟨b, 0, none⟩)] 70 (0, 0)) :: (b3, Obj.cells #[.int .i64 (j : Int)] 3 (0, 0)) :: (b, Obj.cells (List.toArray pc) 162 (0, 0)) :: ro)
   (fun v L' => ∃ Hd', v = .tuple #[.slice none 0 0, .int .i64 0] ∧ L' = [Hd'] ∧ DevAt (D.barrier x.b (x.b + 2 * x.p)) bd Hd') := by
 have hR := ExtRange_spec c hc a cap ro hro j x hj
 have hB := DBarrier_spec D hok bd Hd hD x.b (x.b + 2 * x.p)
 generalize D.barrier x.b (x.b + 2 * x.p) = out at *
 generalize x.b + 2 * x.p = to at *
 refine Ctr.enter (n := 15) [.tmp 3, .tmp 4] [(0, _), (1, _), (2, _)] Tryz.func179 rfl rfl rfl (lb rfl) Tryz.call179 ⟨rfl, rfl, rfl, trivial⟩ ?_
 intro cx fin fin0
 refine aG ?_
 repeat refine gx ?_
 refine W.drawH tab_ok 10 [.b false, .b false, .b false, .b false, .b false, .b false, .b false, .b false, .b false, .b true] [0] follows (by decide +kernel) (by decide +kernel) rfl (by decide) rfl ?_
 intro _
 refine dG ?_
 refine gdx ?_
 refine dV (OpVal.load tab_ok rfl (show At _ _ b (.cells (List.toArray pc) 162 (0, 0)) from .inr (by simp)) hpc) ?_
 refine gdx ?_
 refine dQ (o := hR) (h := ?_) (hro := (fun q hq => by simp [hq]))
 refine gdx ?_
 refine dC (o := hB) (h := ?_)
 rintro _ _ ⟨Hd2, rfl, hD2⟩
 refine dG ?_
 refine gdx ?_
 refine WD.nil (W.dropNil (aG ?_))
 repeat refine gx ?_
 refine W.ret (fin _ _ (FinOk.first 1 (.tmp rfl (.tmp rfl .nil)) rfl ?_))
 exact ⟨_, rfl, rfl, hD2⟩
end Go.Proofs.YtfpghdcjdnifcaaGreat
namespace Go.Proofs.YtfpghdcjdnifcaaGreat
open Go Go.Sl Go.IntWalk
set_option maxHeartbeats 8000000
set_option maxRecDepth 20000
set_option linter.unusedVariables false
theorem setE_self {p : Pl} {j : Nat} (hj : j < p.l.length) : p.setE j (p.tn j) = p := by
 unfold Pl.setE
 rw [Pl.tn_get hj, Int.toNat_natCast, List.set_getElem_self]
theorem splV {P : Program} {n : Nat} {R : HL} {cx : Cx} {K : List Kont} {ρ : Env} {L M : List HL} {A Ho T1 Ti T2 P1 Pi P2 F1 Fi F2 Hk Hd Hc : HL} (h : L = (A ++ (Ho ++ ((T1 ++ (Ti ++ T2)) ++ ((P1 ++ (Pi ++ P2)) ++ ((F1 ++ (Fi ++ F2)) ++ (Hk ++ (Hd ++ Hc))))))) :: M)
  (hk : W P n R cx K ρ (A :: Ho :: T1 :: Ti :: T2 :: P1 :: Pi :: P2 :: F1 :: Fi :: F2 :: Hk :: Hd :: Hc :: M)) : W P n R cx K ρ L := by
 subst h
 exact W.regroup (by simp) hk
theorem PServe_spec (p : Pl) (hg : p.Good) (b : Nat) (H : HL) (h : PlAt p b H) (j : Nat) (hj : j < p.l.length) (hid : (p.tn j).t.ids ≤ 1000000) :
  Ctr Tryz.prog 108 [.pointer (some ⟨b, 0, none⟩), .int .i64 (j : Int)] [H] [] (fun _ L' => ∃ H', L' = [H'] ∧ PlAt (p.setE j ((p.tn j).serve p.now)) b H') := by
 have hself := setE_self hj
 have hpa := h
 obtain ⟨D, ac, cc, bd, ba, bs, al, cl, bl, la, ca, bts, bps, bfs, bks, Ho, Ht, Hp, Hf, Hk, Hd, Hc, rfl, hT, hD, hDC, hK⟩ := h
 obtain ⟨bt0, bf0, bk0, bx, ox, lx, ex, frx, o1, o2, o3, rfl, rfl, l0, hseg⟩ := hT.own_at hj
 obtain ⟨bt, bp, bf, bk, T1, Ti, T2, P1, Pi, P2, F1, Fi, F2, K1, Ki, K2, ⟨q1, q2, q3, q4⟩, ⟨rfl, rfl, rfl, rfl⟩, ⟨c1, c2, c3, c4⟩, hback⟩ := hT.cutE hj
 rw [o1] at q1
 rw [o2] at q3
 rw [o3] at q4
 cases q1
 cases q3
 cases q4
 obtain ⟨x, hx1, -, hte⟩ := hg.inv.at hj
 have hpg := hg.tn hj
 have hio := io_ok hpg
 obtain ⟨f1, f2, f3⟩ := stp_fed hte p.now
 have hst := fun hb => hDC.stp hg hj hx1 hb p.now
 obtain ⟨Hc2, hHc, hro, hcc⟩ := hK.cs
 have hOv := fun hb e bs hf ab cb rb hrb => OverF_spec p.c.dp.toNat (p.tn j).t hte.ti hid hb bt0 bp Ti c1 Pi c2 e bs hf ab cb rb hrb p.now
 have hpe : p.l[j]? = some (p.tn j) := by rw [Pl.tn_get hj]; exact List.getElem?_eq_getElem hj
 have hcu := hDC.of hg.inv hpe hx1
 have ox' := hg.inv.ok.part hx1
 unfold Cp.Ok Cp.to at ox'
 have hat := fun hb h3 => at_range hte hpg hb h3 ox'.2.1.1
 have hNx := SNext_spec (p.tn j).fl bf0 Fi c3
 have hsec := fun pg k => ExtSector_spec p.c hg.inv.ok ac cc Hc2 hro (j : Int) pg k
 generalize hsv : (p.tn j).serve p.now = sv at *
 unfold Te.serve at hsv
 generalize he : p.tn j = e at *
 have c1' := c1
 obtain ⟨bm, bq, ao, co, ls, los, Hm, Hq, Hr, Dr, rfl, hm, -⟩ := c1'
 have hIo := Io_spec e.t.m bm bp Hm hm
 simp only [io3] at hIo
 have hseg' : seg? lx (ox + j * 3) 3 = some [.pointer (some ⟨bt0, 0, none⟩), .pointer (some ⟨bf0, 0, none⟩), .pointer (some ⟨bk0, 0, none⟩)] := hseg
 clear hseg l0
 have hfin : ∀ (e' : Te) (D' : Dv) (Ti2 Pi2 Fi2 Hd2 : HL), TAt p.c.dp.toNat e'.t bt0 bp Ti2 → PtAt e'.t.p bp Pi2 → StAt e'.fl bf0 Fi2 → StAt e'.kp bk0 Ki → DevAt D' bd Hd2 → DCut (p.setE j e') D' → PlAt (p.setE j e') b ([(b, Obj.cells (List.toArray (plCells p ac cc bd ba bs (some ⟨bx, ox, none⟩) cl)) 162 (0, 0))] ++ ([(bx, Obj.cells (List.toArray lx) ex frx)] ++ (T1 ++ (Ti2 ++ (T2 ++ (P1 ++ (Pi2 ++ (P2 ++ (F1 ++ (Fi2 ++ (F2 ++ ((K1 ++ (Ki ++ K2)) ++ (Hd2 ++ Hc))))))))))))) :=
  fun e' D' Ti2 Pi2 Fi2 Hd2 g1 g2 g3 g4 g5 g6 => ⟨D', ac, cc, bd, ba, bs, _, cl, bl, la, ca, bts, bps, bfs, bks, _, _, _, _, _, Hd2, Hc, by simp [plCells, Pl.setE], hback e' Ti2 Pi2 Fi2 Ki g1 g2 g3 g4, g5, g6, hK.setE _ _⟩
 obtain ⟨sc, hsc⟩ : ∃ sc, p.c.sec (j : Int) e.t.m.io.2.1 e.t.m.io.2.2 = sc := ⟨_, rfl⟩
 have hsx : e.t.m.todo ≠ [] → e.t.m.io.1 = 1 ∨ e.t.m.io.1 = 2 → sc.1 = x.b + e.at := fun hb h3 => by
  have hr := hat hb h3
  have hi := hio hb
  have hpgs := hte.pg
  unfold IoOk In0 at hi
  rw [← hsc, sec_at hx1, if_neg (by omega)]
  unfold Te.at
  omega
 have hsec2 := hsec e.t.m.io.2.1 e.t.m.io.2.2
 rw [hsc] at hsec2
 subst hHc
 refine Ctr.enter (n := 93) [] [(0, _), (1, _)] Tryz.func108 rfl rfl rfl (lb rfl) Tryz.call108 ⟨rfl, rfl, trivial⟩ ?_
 intro cx fin fin0
 refine aG ?_
 refine splV rfl ?_
 refine aG ?_
 repeat (first | refine gx ?_ | refine gN fun _ => ?_ | refine gB fun _ => ?_ | fail)
 rename_i b2 b3
 refine W.drawG tab_ok 8 9 [.b false, .b false, .b false, .b false, .b false, .b false, .b false, .f] [.b true] [] follows (by decide) rfl (by decide +kernel) (by decide +kernel) (by decide) (by decide +kernel) rfl (by decide) rfl ?_
 intro _
 refine dG ?_
 refine gdx ?_
 refine dV (OpVal.ixSl tab_ok rfl rfl rfl rfl rfl hj) ?_
 refine dV (OpVal.loadN ty_178.1 ty_178.2 rfl (show At _ _ bx (.cells lx.toArray ex frx) from .inr (by simp)) hseg') ?_
 refine gdx ?_
 refine WD.float tab_ok rfl rfl (lb rfl) (dG ?_)
 refine WD.nil ?_
 intro _ _ _ e; cases e
 refine dG ?_
 refine gdx ?_
 refine WD.nil (W.dropNil (aG ?_))
 rename_i b4
 repeat refine gx ?_
 refine aV (OpVal.load tab_ok rfl (at_in 6 rfl (List.mem_append_left _ (List.mem_singleton.2 rfl))) rfl) ?_
 refine aC (o := hIo) (h := ?_) (hro := (fun q hq => .inl (by simp [hq])))
 rintro _ _ ⟨rfl, rfl⟩
 refine aG ?_
 repeat (first | refine gx ?_ | refine gN fun _ => ?_ | refine gB fun _ => ?_ | fail)
 rename_i b5
 rcases Classical.em (0 < (e.t.m.todo.length : Int)) with hb | hb
 case' inr =>
  have ht : e.t.m.todo = [] := List.length_eq_zero_iff.1 (by omega)
  rw [if_pos ht] at hsv
  subst hsv
  repeat refine gh hb ?_
  refine W.groupV [4, 4, 4, 4, 4, 4, 4, 4, 4, 4, 4, 4, 4, 4] rfl ?_
  refine W.ret (fin _ _ (FinOk.first 1 .nil rfl ?_))
  exact ⟨_, rfl, hfin e D _ Pi Fi Hd c1 c2 c3 c4 hD (by rw [hself]; exact hDC)⟩
 have hb' : e.t.m.todo ≠ [] := fun h0 => by rw [h0] at hb; exact absurd hb (by decide)
 rw [if_neg hb'] at hsv
 have hst2 := hst hb'
 have hsx2 := hsx hb'
 have hio2 := hio hb'
 have hat2 := hat hb'
 unfold Te.stp at hsv
 unfold Te.stp Te.dstp at hst2
 repeat refine gh hb ?_
 refine aC (o := hNx) (h := ?_)
 rintro _ _ ⟨Fi2, rfl, rfl, hst3⟩
 refine aG ?_
 cases hnb : (nextB e.fl).2 with
 | true =>
  rw [if_pos hnb] at hsv
  rw [if_pos hnb, if_pos hnb] at hst2
  subst hsv
  repeat refine gx ?_
  refine W.drawH tab_ok 7 [.b false, .b false, .b false, .b false, .b false, .b false, .b true] [8,11] follows (by decide +kernel) (by decide +kernel) rfl (by decide) rfl ?_
  intro _
  refine dG ?_
  refine gdx ?_
  refine dC (o := (hOv hb' 9 [] f1 none 0 [] ⟨rfl, .inl ⟨rfl, rfl⟩⟩)) (h := ?_)
  rintro _ _ ⟨Ti2, Pi2, rfl, ht2, hp2⟩
  refine dG ?_
  refine gdx ?_
  refine WD.nil (W.dropNil (aG ?_))
  repeat refine gx ?_
  refine W.groupV [7, 7, 7, 0, 6, 6, 0, 5, 5, 0, 4, 4, 4, 4] rfl ?_
  refine W.ret (fin _ _ (FinOk.first 1 .nil rfl ?_))
  exact ⟨_, rfl, hfin _ D _ _ _ Hd ht2 hp2 hst3 c4 hD hst2⟩
 | false =>
  have hnb' : ¬ (nextB e.fl).2 = true := by rw [hnb]; simp
  rw [if_neg hnb'] at hsv
  rw [if_neg hnb', if_neg hnb'] at hst2
  repeat (first | refine gx ?_ | refine gN fun _ => ?_ | refine gB fun _ => ?_ | fail)
  rename_i b7 b8 b9
  refine W.drawG tab_ok 14 15 [.b false, .b false, .b false, .b false, .b false, .b false, .b false, .b false, .b false, .b false, .b false, .b false, .b false, .f] [.b true] [] follows (by decide) rfl (by decide +kernel) (by decide +kernel) (by decide) (by decide +kernel) rfl (by decide) rfl ?_
  intro _
  refine dG ?_
  refine gdx ?_
  refine dQ (o := hsec2) (h := ?_) (hro := (fun q hq => by simp [hq]))
  refine gdx ?_
  refine WD.float tab_ok rfl rfl (lb rfl) (dG ?_)
  refine WD.nil ?_
  intro _ _ _ e; cases e
  refine dG ?_
  refine gdx ?_
  refine WD.nil (W.dropNil (aG ?_))
  rename_i b10
  repeat refine gx ?_
  refine aW NewOf.map ?_
  intro bmp
  refine aG ?_
  have hm0 : IsMp .i64 id ([] : List (Int × Value)) bmp [(bmp, .map #[] 0)] := ⟨#[], 0, rfl, rfl⟩
  generalize hH0 : [(bmp, Obj.map #[] 0)] = Hm0 at hm0
  repeat refine gx ?_
  refine aSkp (mapIns (f := id) (v := .func (.func 176) #[] #[.pointer (some ⟨b7, 0, none⟩), .pointer (some ⟨b10, 0, none⟩)]) Tryz.underlying281 Tryz.underlying3 rfl rfl rfl (by intro p hp; simp [hp]) hm0) ?_
  rintro _ ⟨Hm1, rfl, hm1⟩
  refine aG ?_
  repeat refine gx ?_
  refine aSkp (mapIns (f := id) (v := .func (.func 177) #[] #[.pointer (some ⟨b8, 0, none⟩), .pointer (some ⟨b10, 0, none⟩), .pointer (some ⟨b4, 0, none⟩)]) Tryz.underlying281 Tryz.underlying3 rfl rfl rfl (by intro p hp; simp [hp]) hm1) ?_
  rintro _ ⟨Hm2, rfl, hm2⟩
  refine aG ?_
  repeat refine gx ?_
  refine aSkp (mapIns (f := id) (v := .func (.func 179) #[] #[.pointer (some ⟨b9, 0, none⟩), .pointer (some ⟨b2, 0, none⟩), .pointer (some ⟨b3, 0, none⟩)]) Tryz.underlying281 Tryz.underlying3 rfl rfl rfl (by intro p hp; simp [hp]) hm2) ?_
  rintro _ ⟨Hm3, rfl, hm3⟩
  refine aG ?_
  repeat refine gx ?_
  obtain ⟨es, clock, rfl, hmap⟩ := hm3
  have e1 : ((x.b.toNat : Nat) : Int) = x.b := by omega
  rcases (show e.t.m.io.1 = 1 ∨ e.t.m.io.1 = 2 ∨ e.t.m.io.1 = 3 by unfold IoOk at hio2; omega) with k1 | k1 | k1
  ·
   rw [if_pos k1] at hsv
   rw [if_pos k1, if_pos k1] at hst2
   subst hsv
   have hrd : D.read sc.1 = e.d.read e.at := by
    have hcr := hcu.read (k := e.at) (hat2 (.inl k1))
    rw [e1] at hcr
    rw [hsx2 (.inl k1)]
    exact hcr
   have hV := Ctr.v (fst := []) (args := []) (cap := [.pointer (some ⟨b7, 0, none⟩), .pointer (some ⟨b10, 0, none⟩)]) (Serve1_spec D hDC.ok bd Hd hD b7 b10 sc.1) rfl
   rw [hrd] at hV
   have hO := hOv hb' (e.d.read e.at).2 (e.d.read e.at).1 (f2 k1)
   rw [k1]
   refine aV (OpVal.lookup1 Tryz.underlying281 Tryz.underlying3 rfl rfl (at_own 0 rfl) hmap rfl) ?_
   refine aCV (o := hV) (h := ?_) (hro := fun q hq => .inl (by simp at hq ⊢; rcases hq with rfl | rfl | hq <;> simp [*]))
   rintro _ _ ⟨a', c', Hb, rfl, rfl, ho⟩
   refine aG ?_
   repeat refine gx ?_
   refine W.drawH tab_ok 9 [.b false, .b false, .b false, .b false, .b false, .b false, .b false, .b false, .b true] [14,17] follows (by decide +kernel) (by decide +kernel) rfl (by decide) rfl ?_
   intro _
   refine dG ?_
   refine gdx ?_
   refine dC (o := (hO a' c' Hb (Own.roSl ho))) (h := ?_) (hro := (fun q hq => .inr (by simp [hq])))
   rintro _ _ ⟨Ti2, Pi2, rfl, ht2, hp2⟩
   refine dG ?_
   refine gdx ?_
   refine WD.nil (W.dropNil (aG ?_))
   repeat refine gx ?_
   refine W.groupV [13, 13, 13, 0, 12, 12, 0, 11, 11, 6, 10, 10, 10, 10] rfl ?_
   refine fin0 _ _ (FinOk.first 1 .nil rfl ?_)
   exact ⟨_, rfl, hfin _ D _ _ _ Hd ht2 hp2 hst3 c4 hD hst2⟩
  ·
   have k0 : ¬ e.t.m.io.1 = 1 := by omega
   rw [if_neg k0, if_pos k1] at hsv
   rw [if_neg k0, if_pos k1, if_neg k0, if_pos k1] at hst2
   subst hsv
   have hV := Ctr.v (fst := []) (args := []) (cap := [.pointer (some ⟨b8, 0, none⟩), .pointer (some ⟨b10, 0, none⟩), .pointer (some ⟨b4, 0, none⟩)]) (Serve2_spec D hDC.ok bd Hd hD b8 b10 b4 sc.1 bt0 bf0 bk0 bm bp [.pointer (some ⟨bm, 0, none⟩), .pointer (some ⟨bp, 0, none⟩), .pointer (some ⟨bq, 0, none⟩), .int .i64 e.t.pages, .int .i64 e.t.ids, .int .u64 e.t.c.h, .int .u64 e.t.c.m, .int .u64 e.t.c.e, .int .u64 e.t.c.r, .int .u64 e.t.c.w, .int .u64 e.t.c.f, .slice ao los.length co] rfl e.t.m Hm hm e.t.p hte.ti.mi.inv Pi c2 (data_k hte.ti.mi)) rfl
   have hwr : (D.write sc.1 (e.t.m.data e.t.p)).2 = (e.d.write e.at (e.t.m.data e.t.p)).2 := by
    have hcr := (hcu.write (k := e.at) (hat2 (.inr k1)) (e.t.m.data e.t.p)).2
    rw [e1] at hcr
    rw [hsx2 (.inr k1)]
    exact hcr
   rw [← hsx2 (.inr k1)] at hst2
   rw [hwr] at hV
   have hO := hOv hb' (e.d.write e.at (e.t.m.data e.t.p)).2 [] (f3 k0 _) none 0 [] ⟨rfl, .inl ⟨rfl, rfl⟩⟩
   rw [k1]
   refine aV (OpVal.lookup1 Tryz.underlying281 Tryz.underlying3 rfl rfl (at_own 0 rfl) hmap rfl) ?_
   refine aCV (o := hV) (h := ?_) (hro := fun q hq => .inl (by simp at hq ⊢; rcases hq with rfl | rfl | rfl | rfl | hq | hq <;> simp [*]))
   rintro _ _ ⟨Hd2, rfl, rfl, hD2⟩
   refine aG ?_
   repeat refine gx ?_
   refine W.drawH tab_ok 9 [.b false, .b false, .b false, .b false, .b false, .b false, .b false, .b false, .b true] [14,17] follows (by decide +kernel) (by decide +kernel) rfl (by decide) rfl ?_
   intro _
   refine dG ?_
   refine gdx ?_
   refine dC (o := hO) (h := ?_)
   rintro _ _ ⟨Ti2, Pi2, rfl, ht2, hp2⟩
   refine dG ?_
   refine gdx ?_
   refine WD.nil (W.dropNil (aG ?_))
   repeat refine gx ?_
   refine W.groupV [13, 13, 13, 0, 12, 12, 0, 11, 11, 6, 10, 10, 0, 9] rfl ?_
   refine fin0 _ _ (FinOk.first 1 .nil rfl ?_)
   exact ⟨_, rfl, hfin _ _ _ _ _ Hd2 ht2 hp2 hst3 c4 hD2 hst2⟩
  ·
   have k0 : ¬ e.t.m.io.1 = 1 := by omega
   have k2 : ¬ e.t.m.io.1 = 2 := by omega
   rw [if_neg k0, if_neg k2] at hsv
   rw [if_neg k0, if_neg k2, if_neg k0, if_neg k2] at hst2
   subst hsv
   have hV := Ctr.v (fst := []) (args := []) (cap := [.pointer (some ⟨b9, 0, none⟩), .pointer (some ⟨b2, 0, none⟩), .pointer (some ⟨b3, 0, none⟩)]) (Serve3_spec D hDC.ok bd Hd hD b9 b2 b3 b (plCells p ac cc bd ba bs (some ⟨bx, ox, none⟩) cl) p.c hg.inv.ok ac cc rfl Hc2 hro j x hx1) rfl
   rw [hte.dl] at hst2
   have hO := hOv hb' 0 [] (f3 k0 _) none 0 [] ⟨rfl, .inl ⟨rfl, rfl⟩⟩
   rw [k1]
   refine aV (OpVal.lookup1 Tryz.underlying281 Tryz.underlying3 rfl rfl (at_own 0 rfl) hmap rfl) ?_
   refine aCV (o := hV) (h := ?_) (hro := fun q hq => .inl (by simp at hq ⊢; rcases hq with rfl | rfl | rfl | rfl | hq <;> simp [*]))
   rintro _ _ ⟨Hd2, rfl, rfl, hD2⟩
   refine aG ?_
   repeat refine gx ?_
   refine W.drawH tab_ok 9 [.b false, .b false, .b false, .b false, .b false, .b false, .b false, .b false, .b true] [14,17] follows (by decide +kernel) (by decide +kernel) rfl (by decide) rfl ?_
   intro _
   refine dG ?_
   refine gdx ?_
   refine dC (o := hO) (h := ?_)
   rintro _ _ ⟨Ti2, Pi2, rfl, ht2, hp2⟩
   refine dG ?_
   refine gdx ?_
   refine WD.nil (W.dropNil (aG ?_))
   repeat refine gx ?_
   refine W.groupV [13, 13, 13, 0, 12, 12, 0, 11, 11, 6, 10, 10, 0, 9] rfl ?_
   refine fin0 _ _ (FinOk.first 1 .nil rfl ?_)
   rw [hte.dl]
   exact ⟨_, rfl, hfin _ _ _ _ _ Hd2 ht2 hp2 hst3 c4 hD2 hst2⟩
end Go.Proofs.YtfpghdcjdnifcaaGreat
