/-
  The walks of this claim and the rules that they use, part five: each theorem is a contract of one function, or what such a proof asks.
-/
import Derived.Test.YtfajcpnbhnddbaaGreatZ4
namespace Go.Proofs.YtfajcpnbhnddbaaGreat
open Go Go.Sl Go.IntWalk
set_option maxHeartbeats 8000000
set_option maxRecDepth 20000
theorem split2 {P : Program} {n : Nat} {R : HL} {cx : Cx} {K : List Kont} {ρ : Env} {L M : List HL} {A B : HL} (h : L = (A ++ B) :: M) (hk : W P n R cx K ρ (A :: B :: M)) : W P n R cx K ρ L := by
  subst h
  exact W.regroup (by simp) hk
def ops14 : List Int := [1, 1, 1, 2, 2, 3, 3, 3, 4, 4, 5, 6, 7, 8]
def gop (x : Int) : Int := ops14.getD (around x 14).toNat 0
def gq (q : Rq) (n : Int) : Rq := ⟨gop q.op, if gop q.op ≠ 6 ∧ gop q.op ≠ 8 then around q.page n else 0, if gop q.op = 2 ∨ gop q.op = 3 then around q.off 33 else 0,
  if gop q.op = 2 then around q.len (33 - around q.off 33) else 0, if gop q.op = 3 then (fill q.data (around q.len 33).toNat).take (32 - around q.off 33).toNat else []⟩
theorem gop_cases (x : Int) : gop x = 1 ∨ gop x = 2 ∨ gop x = 3 ∨ gop x = 4 ∨ gop x = 5 ∨ gop x = 6 ∨ gop x = 7 ∨ gop x = 8 := by
  have h := around_range x 14 (by decide)
  unfold gop
  obtain ⟨k, hk⟩ : ∃ k : Nat, around x 14 = (k : Int) := ⟨(around x 14).toNat, by omega⟩
  rw [hk, Int.toNat_natCast]
  have hk2 : k < 14 := by omega
  match k, hk2 with
  | 0, _ => decide
  | 1, _ => decide
  | 2, _ => decide
  | 3, _ => decide
  | 4, _ => decide
  | 5, _ => decide
  | 6, _ => decide
  | 7, _ => decide
  | 8, _ => decide
  | 9, _ => decide
  | 10, _ => decide
  | 11, _ => decide
  | 12, _ => decide
  | 13, _ => decide
structure Rq.Ok (q : Rq) : Prop where
  op : 1 ≤ q.op ∧ q.op ≤ 8
  page : 0 ≤ q.page
  off : i64s q.off
  len : i64s q.len
  u8 : u8ok q.data
  dl : q.data.length ≤ 1000000
theorem gq_ok (q : Rq) (n : Int) (hn : 0 < n) (hu : u8ok q.data) : (gq q n).Ok := by
  have h0 := around_range q.off 33 (by decide)
  have h1 := around_range q.page n hn
  have h2 := around_range q.len 33 (by decide)
  have h3 := around_range q.len (33 - around q.off 33) (by omega)
  have h4 := gop_cases q.op
  refine ⟨by simp only [gq]; omega, ?_, ?_, ?_, ?_, ?_⟩
  · simp only [gq]; split <;> omega
  · simp only [gq, i64s]; split <;> omega
  · simp only [gq, i64s]; split <;> omega
  · simp only [gq]
    split
    · exact fun b hb => fill_ok hu _ b (List.mem_of_mem_take hb)
    · intro b hb; cases hb
  · simp only [gq]
    split
    · rw [List.length_take, fill_len]; omega
    · simp
def wStep (m : Mc) (p : Pt) (q : Rq) (f : Bool) : Mc × Pt := if m.todo = [] then ((mBegin m p q).1, (mBegin m p q).2.1) else ((mEnd m p (if f then 9 else 0) (fill q.data 16)).1, (mEnd m p (if f then 9 else 0) (fill q.data 16)).2.1)
theorem wStep_inv {m : Mc} {p : Pt} (h : MInv m p) {q : Rq} (hq : q.Ok) (f : Bool) : MInv (wStep m p q f).1 (wStep m p q f).2 := by
  unfold wStep
  split
  · rename_i ht
    exact begin_inv h ht hq.op.1 hq.op.2 hq.u8
  · rename_i ht
    exact end_inv h ht _ (fill_ok hq.u8 16) (fill_len _ _)
theorem mEnd_data (m : Mc) (p : Pt) (e : Int) (bs : List Int) : (mEnd m p e bs).2.2.data = [] := by
  unfold mEnd
  split
  · rfl
  · split <;> rfl
end Go.Proofs.YtfajcpnbhnddbaaGreat
namespace Go.Proofs.YtfajcpnbhnddbaaGreat
open Go Go.Sl Go.IntWalk
set_option maxHeartbeats 4000000
set_option maxRecDepth 20000
set_option linter.unusedVariables false
theorem roOwn (b : Nat) (bs : List Int) (e : Nat) : RoSl 1 (u8s bs) (some ⟨b, 0, none⟩) bs.length [(b, .cells (u8s bs).toArray e (0, 0))] :=
  ⟨by rw [u8s_len, Nat.mul_one], .inr ⟨b, 0, u8s bs, e, (0, 0), rfl, rfl, by rw [u8s_len]; omega, by rw [List.drop_zero, Nat.mul_one, ← u8s_len bs, List.take_length]⟩⟩
theorem Clone0_spec (cap : Nat) : Ctr Tryz.prog 54 [.slice none 0 cap] [] [] (fun v L' => v = .slice none 0 0 ∧ L' = []) := by
  refine Ctr.enter (n := 8) [.tmp 2] [(0, _)] Tryz.func54 rfl rfl rfl (lb rfl) Tryz.call54 ⟨rfl, trivial⟩ ?_
  intro cx fin fin0
  refine aG ?_
  refine aV (OpVal.eqNilSl tab_ok rfl rfl rfl) ?_
  refine aT ?_ (hb := by rfl)
  refine W.ret (fin _ _ (FinOk.first 0 (.tmp rfl .nil) rfl ?_))
  exact ⟨rfl, rfl⟩
theorem BClone_spec (bs : List Int) (hl : bs.length ≤ 1000000) (a : Option Addr) (cap : Nat) (ro : HL) (hro : RoSl 1 (u8s bs) a bs.length ro) :
    Ctr Tryz.prog 54 [.slice a bs.length cap] [] ro (fun v L' => ∃ a' cap' H, v = .slice a' bs.length cap' ∧ L' = [H] ∧ Own 1 5 (u8s bs) a' bs.length cap' H) := by
  refine Ctr.enter (n := 8) [.tmp 2] [(0, _)] Tryz.func54 rfl rfl rfl (lb rfl) Tryz.call54 ⟨rfl, trivial⟩ ?_
  intro cx fin fin0
  refine aG ?_
  refine aV (OpVal.eqNilSl tab_ok rfl rfl rfl) ?_
  cases a with
  | none =>
    have h0 : bs = [] := by
      rcases hro.2 with ⟨h, -⟩ | ⟨_, _, _, _, _, h, _⟩
      · exact List.eq_nil_of_length_eq_zero h
      · cases h
    subst h0
    refine aT ?_ (hb := by rfl)
    refine W.nilChunk ?_
    refine W.ret (fin _ _ (FinOk.first 1 (.tmp rfl .nil) rfl ?_))
    exact ⟨_, _, _, rfl, rfl, Own.nil 1 _⟩
  | some ad =>
    refine aF ?_ (hb := by rfl)
    refine aSl (ps := []) ?_
    intro b5
    refine aG ?_
    have how : Own 1 5 (u8s []) (some ⟨b5, 0, none⟩) ([] : List Int).length 0 [(b5, .cells #[] 5 (0, 0))] := ⟨rfl, .inr ⟨b5, [], rfl, rfl, Nat.le_refl _, rfl, rfl⟩⟩
    refine aPr (appU8 tab_ok rfl rfl rfl how (by intro p hp; simp [hp]) rfl hro (fun q hq => .inr hq) (by simp; omega) (by simp; omega)) ?_
    rintro _ _ ⟨a2, c2, H2, rfl, rfl, ho⟩
    refine aG ?_
    rw [List.nil_append] at ho
    repeat (first | refine gx ?_ | refine gN fun _ => ?_ | refine gB fun _ => ?_ | fail)
    refine W.ret (fin _ _ (FinOk.first 1 (.tmp rfl .nil) rfl ?_))
    exact ⟨_, _, _, rfl, rfl, ho⟩
theorem BEqual_spec (x y : List Int) (hx : u8ok x) (hy : u8ok y) (a : Option Addr) (cap : Nat) (r1 : HL) (h1 : RoSl 1 (u8s x) a x.length r1) (b : Option Addr) (cb : Nat) (r2 : HL) (h2 : RoSl 1 (u8s y) b y.length r2) :
    Ctr Tryz.prog 75 [.slice a x.length cap, .slice b y.length cb] [] (r1 ++ r2) (fun v L' => v = .bool (decide (x = y)) ∧ L' = []) := by
  refine Ctr.enter (n := 10) [.tmp 4] [(0, _), (1, _)] Tryz.func75 rfl rfl rfl (lb rfl) Tryz.call75 ⟨rfl, rfl, trivial⟩ ?_
  intro cx fin fin0
  refine aG ?_
  refine aV (OpVal.bytesStr tab_ok rfl rfl rfl rfl h1 (fun q hq => .inr (by simp [hq]))) ?_
  refine aV (OpVal.bytesStr tab_ok rfl rfl rfl rfl h2 (fun q hq => .inr (by simp [hq]))) ?_
  refine aV (OpVal.eqStr rfl rfl) ?_
  rw [bstr_eq hx hy]
  refine W.ret (fin _ _ (FinOk.first 0 (.tmp rfl .nil) rfl ?_))
  exact ⟨rfl, rfl⟩
end Go.Proofs.YtfajcpnbhnddbaaGreat
namespace Go.Proofs.YtfajcpnbhnddbaaGreat
open Go Go.Sl Go.IntWalk
set_option maxHeartbeats 8000000
set_option maxRecDepth 20000
set_option linter.unusedVariables false
def rnamed (q : Rq) : Rq :=
  if q.op = 1 ∨ q.op = 4 ∨ q.op = 5 ∨ q.op = 7 then ⟨q.op, q.page, 0, 0, []⟩ else if q.op = 2 then ⟨q.op, q.page, q.off, q.len, []⟩ else if q.op = 3 then ⟨q.op, q.page, q.off, 0, q.data⟩ else ⟨q.op, 0, 0, 0, []⟩
def rcheck (q : Rq) (pages : Int) : Int :=
  if ¬ (1 ≤ q.op ∧ q.op ≤ 8) ∨ q ≠ rnamed q then 2 else if q.op ≠ 6 ∧ q.op ≠ 8 ∧ (q.page < 0 ∨ pages ≤ q.page) then 4
  else if q.off < 0 ∨ 32 < q.off ∨ q.len < 0 ∨ 32 - q.off < q.len ∨ 32 - q.off < (q.data.length : Int) then 4 else 0
def rnames : List ByteArray := [⟨#[]⟩, ⟨#[102, 101, 116, 99, 104]⟩, ⟨#[114, 101, 97, 100]⟩, ⟨#[119, 114, 105, 116, 101]⟩, ⟨#[117, 110, 112, 105, 110]⟩, ⟨#[102, 108, 117, 115, 104]⟩, ⟨#[102, 108, 117, 115, 104, 97, 108, 108]⟩, ⟨#[100, 105, 115, 99, 97, 114, 100]⟩, ⟨#[115, 116, 97, 116, 115]⟩]
theorem RName_no (k : Int) (h : k < 0 ∨ 9 ≤ k) : Ctr Tryz.prog 50 [.int .i64 k] [] [] (fun v L' => v = .string ⟨#[]⟩ ∧ L' = []) := by
  refine Ctr.enter (n := 12) [.tmp 2] [(0, _)] Tryz.func50 rfl rfl rfl (lb rfl) Tryz.call50 ⟨rfl, trivial⟩ ?_
  intro cx fin fin0
  refine aG ?_
  rcases Classical.em (k < 0) with h1 | h1
  · repeat (first | refine gh h1 ?_ | refine gN fun _ => ?_ | refine gB fun _ => ?_ | fail)
    refine W.ret (fin _ _ (FinOk.first 0 (.tmp rfl .nil) rfl ?_))
    exact ⟨rfl, rfl⟩
  · have h2 : k ≥ 9 := by omega
    repeat (first | refine gh (gc2 h1 h2) ?_ | refine gN fun _ => ?_ | refine gB fun _ => ?_ | fail)
    refine W.ret (fin _ _ (FinOk.first 0 (.tmp rfl .nil) rfl ?_))
    exact ⟨rfl, rfl⟩
theorem Names_spec : Ctr Tryz.prog 74 [] [] [] (fun v L' => v = .agg (rnames.map Value.string).toArray ∧ L' = []) := by
  refine Ctr.enter (n := 2) [.cell 0 154] [] Tryz.func74 rfl rfl rfl (lb rfl) Tryz.call74 trivial ?_
  intro cx fin fin0
  refine aG ?_
  repeat (first | refine gx ?_ | refine gN fun _ => ?_ | refine gB fun _ => ?_ | fail)
  refine aBu (ps := [_, _, _, _, _, _, _, _, _]) ?_
  repeat (first | refine gx ?_ | refine gN fun _ => ?_ | refine gB fun _ => ?_ | fail)
  refine W.ret (fin _ _ (FinOk.first 0 (aRc .nil) rfl ?_))
  exact ⟨rfl, rfl⟩
theorem RName_spec (j : Nat) (h : j < 9) : Ctr Tryz.prog 50 [.int .i64 (j : Int)] [] [] (fun v L' => v = .string (rnames.getD j ⟨#[]⟩) ∧ L' = []) := by
  have h1 : ¬ ((j : Int) < 0) := by omega
  have h2 : ¬ ((j : Int) ≥ 9) := by omega
  have hk : j = 0 ∨ j = 1 ∨ j = 2 ∨ j = 3 ∨ j = 4 ∨ j = 5 ∨ j = 6 ∨ j = 7 ∨ j = 8 := by omega
  refine Ctr.enter (n := 12) [.tmp 2] [(0, _)] Tryz.func50 rfl rfl rfl (lb rfl) Tryz.call50 ⟨rfl, trivial⟩ ?_
  intro cx fin fin0
  refine aG ?_
  repeat (first | refine gh (gc2 h1 h2) ?_ | refine gN fun _ => ?_ | refine gB fun _ => ?_ | fail)
  refine aC (o := Names_spec) (h := ?_)
  rintro _ _ ⟨rfl, rfl⟩
  refine aG ?_
  rcases hk with rfl | rfl | rfl | rfl | rfl | rfl | rfl | rfl | rfl
  all_goals
    refine aV (OpVal.ix1 tab_ok rfl rfl rfl rfl rfl (by decide) rfl) ?_
    refine W.ret (fin _ _ (FinOk.first 0 (.tmp rfl .nil) rfl ?_))
    exact ⟨rfl, rfl⟩
theorem Same_spec (a b : Rq) (hua : u8ok a.data) (hub : u8ok b.data) (aa : Option Addr) (ca : Nat) (ra : HL) (hra : RoSl 1 (u8s a.data) aa a.data.length ra) (ab : Option Addr) (cb : Nat) (rb : HL) (hrb : RoSl 1 (u8s b.data) ab b.data.length rb) :
    Ctr Tryz.prog 51 [a.v aa ca, b.v ab cb] [] (ra ++ rb) (fun v L' => v = .bool (decide (a = b)) ∧ L' = []) := by
  have hE := BEqual_spec a.data b.data hua hub aa ca ra hra ab cb rb hrb
  obtain ⟨o1, p1, f1, l1, d1⟩ := a
  obtain ⟨o2, p2, f2, l2, d2⟩ := b
  simp only at *
  refine Ctr.enter (n := 38) [.tmp 4] [(0, _), (1, _)] Tryz.func51 rfl rfl rfl (lb rfl) Tryz.call51 ⟨rfl, rfl, trivial⟩ ?_
  intro cx fin fin0
  refine aG ?_
  rcases Classical.em (o1 = o2) with h1 | h1
  · rcases Classical.em (p1 = p2) with h2 | h2
    · rcases Classical.em (f1 = f2) with h3 | h3
      · rcases Classical.em (l1 = l2) with h4 | h4
        · subst h1 h2 h3 h4
          repeat (first | refine gx ?_ | refine gN fun _ => ?_ | refine gB fun _ => ?_ | fail)
          refine aC (o := hE) (h := ?_) (hro := RoIn.same)
          rintro _ _ ⟨rfl, rfl⟩
          refine aG ?_
          repeat (first | refine gx ?_ | refine gN fun _ => ?_ | refine gB fun _ => ?_ | fail)
          refine W.ret (fin _ _ (FinOk.first 0 (.tmp rfl .nil) rfl ?_))
          exact ⟨by simp [pack], rfl⟩
        · repeat (first | refine gh (gc4 h1 h2 h3 h4) ?_ | refine gN fun _ => ?_ | refine gB fun _ => ?_ | fail)
          refine W.ret (fin _ _ (FinOk.first 0 (.tmp rfl .nil) rfl ?_))
          exact ⟨by simp [pack, h4], rfl⟩
      · repeat (first | refine gh (gc3 h1 h2 h3) ?_ | refine gN fun _ => ?_ | refine gB fun _ => ?_ | fail)
        refine W.ret (fin _ _ (FinOk.first 0 (.tmp rfl .nil) rfl ?_))
        exact ⟨by simp [pack, h3], rfl⟩
    · repeat (first | refine gh (gc2 h1 h2) ?_ | refine gN fun _ => ?_ | refine gB fun _ => ?_ | fail)
      refine W.ret (fin _ _ (FinOk.first 0 (.tmp rfl .nil) rfl ?_))
      exact ⟨by simp [pack, h2], rfl⟩
  · repeat (first | refine gh h1 ?_ | refine gN fun _ => ?_ | refine gB fun _ => ?_ | fail)
    refine W.ret (fin _ _ (FinOk.first 0 (.tmp rfl .nil) rfl ?_))
    exact ⟨by simp [pack, h1], rfl⟩
theorem RClone_spec (q : Rq) (hl : q.data.length ≤ 1000000) (a : Option Addr) (c : Nat) (ro : HL) (hro : RoSl 1 (u8s q.data) a q.data.length ro) :
    Ctr Tryz.prog 29 [q.v a c] [] ro (fun v L' => ∃ a' c' H, v = q.v a' c' ∧ L' = [H] ∧ RoSl 1 (u8s q.data) a' q.data.length H) := by
  have hC := BClone_spec q.data hl a c ro hro
  obtain ⟨o1, p1, f1, l1, d1⟩ := q
  simp only at *
  refine Ctr.enter (n := 8) [.cell 2 48] [(0, _)] Tryz.func29 rfl rfl rfl (lb rfl) Tryz.call29 ⟨rfl, trivial⟩ ?_
  intro cx fin fin0
  refine aG ?_
  repeat (first | refine gx ?_ | refine gN fun _ => ?_ | refine gB fun _ => ?_ | fail)
  refine aC (o := hC) (h := ?_) (hro := RoIn.same)
  rintro _ _ ⟨a2, c2, H, rfl, rfl, ho⟩
  refine aG ?_
  repeat (first | refine gx ?_ | refine gN fun _ => ?_ | refine gB fun _ => ?_ | fail)
  refine W.ret (fin _ _ (FinOk.first 1 (aRc .nil) rfl ?_))
  exact ⟨a2, c2, _, rfl, rfl, Own.roSl ho⟩
theorem Nm1_spec (q : Rq) (a : Option Addr) (c : Nat) : Ctr Tryz.prog 76 [q.v a c] [] [] (fun v L' => v = (⟨q.op, q.page, 0, 0, []⟩ : Rq).v none 0 ∧ L' = []) := by
  obtain ⟨o1, p1, f1, l1, d1⟩ := q
  refine Ctr.enter (n := 8) [.cell 2 48] [(0, _)] Tryz.func76 rfl rfl rfl (lb rfl) Tryz.call76 ⟨rfl, trivial⟩ ?_
  intro cx fin fin0
  refine aG ?_
  repeat (first | refine gx ?_ | refine gN fun _ => ?_ | refine gB fun _ => ?_ | fail)
  refine aBu (ps := [_, _]) ?_
  repeat (first | refine gx ?_ | refine gN fun _ => ?_ | refine gB fun _ => ?_ | fail)
  refine W.ret (fin _ _ (FinOk.first 0 (aRc .nil) rfl ?_))
  exact ⟨rfl, rfl⟩
theorem Nm2_spec (q : Rq) (a : Option Addr) (c : Nat) : Ctr Tryz.prog 77 [q.v a c] [] [] (fun v L' => v = (⟨q.op, 0, 0, 0, []⟩ : Rq).v none 0 ∧ L' = []) := by
  obtain ⟨o1, p1, f1, l1, d1⟩ := q
  refine Ctr.enter (n := 6) [.cell 2 48] [(0, _)] Tryz.func77 rfl rfl rfl (lb rfl) Tryz.call77 ⟨rfl, trivial⟩ ?_
  intro cx fin fin0
  refine aG ?_
  repeat (first | refine gx ?_ | refine gN fun _ => ?_ | refine gB fun _ => ?_ | fail)
  refine aBu (ps := [_]) ?_
  repeat (first | refine gx ?_ | refine gN fun _ => ?_ | refine gB fun _ => ?_ | fail)
  refine W.ret (fin _ _ (FinOk.first 0 (aRc .nil) rfl ?_))
  exact ⟨rfl, rfl⟩
theorem Nm3_spec (q : Rq) (a : Option Addr) (c : Nat) : Ctr Tryz.prog 78 [q.v a c] [] [] (fun v L' => v = (⟨q.op, q.page, q.off, q.len, []⟩ : Rq).v none 0 ∧ L' = []) := by
  obtain ⟨o1, p1, f1, l1, d1⟩ := q
  refine Ctr.enter (n := 12) [.cell 2 48] [(0, _)] Tryz.func78 rfl rfl rfl (lb rfl) Tryz.call78 ⟨rfl, trivial⟩ ?_
  intro cx fin fin0
  refine aG ?_
  repeat (first | refine gx ?_ | refine gN fun _ => ?_ | refine gB fun _ => ?_ | fail)
  refine aBu (ps := [_, _, _, _]) ?_
  repeat (first | refine gx ?_ | refine gN fun _ => ?_ | refine gB fun _ => ?_ | fail)
  refine W.ret (fin _ _ (FinOk.first 0 (aRc .nil) rfl ?_))
  exact ⟨rfl, rfl⟩
theorem Nm4_spec (q : Rq) (a : Option Addr) (c : Nat) : Ctr Tryz.prog 79 [q.v a c] [] [] (fun v L' => v = (⟨q.op, q.page, q.off, 0, q.data⟩ : Rq).v a c ∧ L' = []) := by
  obtain ⟨o1, p1, f1, l1, d1⟩ := q
  refine Ctr.enter (n := 12) [.cell 2 48] [(0, _)] Tryz.func79 rfl rfl rfl (lb rfl) Tryz.call79 ⟨rfl, trivial⟩ ?_
  intro cx fin fin0
  refine aG ?_
  repeat (first | refine gx ?_ | refine gN fun _ => ?_ | refine gB fun _ => ?_ | fail)
  refine aBu (ps := [_, _, _, _]) ?_
  repeat (first | refine gx ?_ | refine gN fun _ => ?_ | refine gB fun _ => ?_ | fail)
  refine W.ret (fin _ _ (FinOk.first 0 (aRc .nil) rfl ?_))
  exact ⟨rfl, rfl⟩
def fns (f : Nat) : Value := .func (.func f) #[] #[]
theorem Nmd_spec : Ctr Tryz.prog 52 [] [] [] (fun v L' => v = .agg #[fns 77, fns 76, fns 78, fns 79, fns 76, fns 76, fns 77, fns 76, fns 77] ∧ L' = []) := by
  refine Ctr.enter (n := 15) [.cell 0 119] [] Tryz.func52 rfl rfl rfl (lb rfl) Tryz.call52 trivial ?_
  intro cx fin fin0
  refine aG ?_
  repeat (first | refine gx ?_ | refine gN fun _ => ?_ | refine gB fun _ => ?_ | fail)
  refine aBu (ps := [_, _, _, _, _, _, _, _, _]) ?_
  repeat (first | refine gx ?_ | refine gN fun _ => ?_ | refine gB fun _ => ?_ | fail)
  refine W.ret (fin _ _ (FinOk.first 0 (aRc .nil) rfl ?_))
  exact ⟨rfl, rfl⟩
def fnl : List Value := [fns 77, fns 76, fns 78, fns 79, fns 76, fns 76, fns 77, fns 76, fns 77]
theorem Check_go (j f : Nat) (hj1 : 1 ≤ j) (hj8 : j ≤ 8) (hf : fnl[j]? = some (fns f)) (hfi : Tryz.prog.inits.idxOf? f = none) (hnn : ((rnames.getD j ⟨#[]⟩).toList == (⟨#[]⟩ : ByteArray).toList) = false) (q q' : Rq) (hq : q.op = (j : Int)) (hq' : rnamed q = q') (hl : q.data.length ≤ 1000000) (pages : Int) (a : Option Addr) (c : Nat) (a' : Option Addr) (c' : Nat) (ro : HL) (hoi : i64s q.off)
    (hC : Ctr Tryz.prog f [q.v a c] [] [] (fun v L' => v = q'.v a' c' ∧ L' = [])) (hS : Ctr Tryz.prog 51 [q.v a c, q'.v a' c'] [] ro (fun v L' => v = .bool (decide (q = q')) ∧ L' = [])) :
    Ctr Tryz.prog 27 [q.v a c, .int .i64 pages] [] ro (fun v L' => v = .int .i64 (rcheck q pages) ∧ L' = []) := by
  have hN := RName_spec j (by omega)
  have hM := Nmd_spec
  have hrc : rcheck q pages = rcheck q pages := rfl
  conv at hrc => rhs; unfold rcheck
  rw [hq'] at hrc
  have hop : ¬ ¬ (1 ≤ q.op ∧ q.op ≤ 8) := by omega
  generalize rcheck q pages = out at *
  obtain ⟨o1, p1, f1, l1, d1⟩ := q
  simp only at *
  subst hq
  rw [show (⟨(j : Int), p1, f1, l1, d1⟩ : Rq).v a c = .agg #[.int .i64 (j : Int), .int .i64 p1, .int .i64 f1, .int .i64 l1, .slice a d1.length c] from rfl]
  refine Ctr.enter (n := 69) [.tmp 4] [(0, _), (1, _)] Tryz.func27 rfl rfl rfl (lb rfl) Tryz.call27 ⟨rfl, rfl, trivial⟩ ?_
  intro cx fin fin0
  refine aG ?_
  repeat (first | refine gx ?_ | refine gN fun _ => ?_ | refine gB fun _ => ?_ | fail)
  refine W.draw follows (by decide +kernel) (zG ?_)
  repeat (first | refine zL ?_ | (first | refine zGo ?_ | refine zSk ?_ | refine zUn ?_ | fail) | (first | refine zPT ?_ | refine zPF ?_ | fail) | refine zV (OpVal.add rfl rfl (i64_in _ (by omega))) ?_ | refine zV (OpVal.sub rfl rfl (i64_in _ (by omega))) ?_ | refine zV (OpVal.neBool tab_ok rfl rfl rfl) ?_ | refine zV (OpVal.eqBool tab_ok rfl rfl rfl) ?_ | refine zV (OpVal.eqNil tab_ok rfl rfl rfl) ?_ | refine zV (OpVal.neNil tab_ok rfl rfl rfl) ?_ | fail)
  refine zC (o := hN) (h := ?_)
  refine zV (OpVal.eqStr rfl rfl) ?_
  repeat (first | refine zL ?_ | (first | refine zGo ?_ | refine zSk ?_ | refine zUn ?_ | refine zGo ?_ (hw := by exact gd hnn) | refine zSk ?_ (hw := by exact gd hnn) | fail) | (first | refine zPT ?_ | refine zPF ?_ | refine zPT ?_ (hb := by exact gd hnn) | refine zPF ?_ (hb := by exact gd hnn) | fail) | refine zV (OpVal.add rfl rfl (i64_in _ (by omega))) ?_ | refine zV (OpVal.sub rfl rfl (i64_in _ (by omega))) ?_ | refine zV (OpVal.neBool tab_ok rfl rfl rfl) ?_ | refine zV (OpVal.eqBool tab_ok rfl rfl rfl) ?_ | refine zV (OpVal.eqNil tab_ok rfl rfl rfl) ?_ | refine zV (OpVal.neNil tab_ok rfl rfl rfl) ?_ | fail)
  refine zC (o := hM) (h := ?_)
  repeat (first | refine zL ?_ | (first | refine zGo ?_ | refine zSk ?_ | refine zUn ?_ | refine zGo ?_ (hw := by exact gd hnn) | refine zSk ?_ (hw := by exact gd hnn) | fail) | (first | refine zPT ?_ | refine zPF ?_ | refine zPT ?_ (hb := by exact gd hnn) | refine zPF ?_ (hb := by exact gd hnn) | fail) | refine zV (OpVal.add rfl rfl (i64_in _ (by omega))) ?_ | refine zV (OpVal.sub rfl rfl (i64_in _ (by omega))) ?_ | refine zV (OpVal.neBool tab_ok rfl rfl rfl) ?_ | refine zV (OpVal.eqBool tab_ok rfl rfl rfl) ?_ | refine zV (OpVal.eqNil tab_ok rfl rfl rfl) ?_ | refine zV (OpVal.neNil tab_ok rfl rfl rfl) ?_ | fail)
  refine zV (OpVal.ix1 (l := fnl) tab_ok rfl rfl rfl rfl rfl (show j < 9 by omega) hf) ?_
  repeat (first | refine zL ?_ | (first | refine zGo ?_ | refine zSk ?_ | refine zUn ?_ | refine zGo ?_ (hw := by exact gd hnn) | refine zSk ?_ (hw := by exact gd hnn) | fail) | (first | refine zPT ?_ | refine zPF ?_ | refine zPT ?_ (hb := by exact gd hnn) | refine zPF ?_ (hb := by exact gd hnn) | fail) | refine zV (OpVal.add rfl rfl (i64_in _ (by omega))) ?_ | refine zV (OpVal.sub rfl rfl (i64_in _ (by omega))) ?_ | refine zV (OpVal.neBool tab_ok rfl rfl rfl) ?_ | refine zV (OpVal.eqBool tab_ok rfl rfl rfl) ?_ | refine zV (OpVal.eqNil tab_ok rfl rfl rfl) ?_ | refine zV (OpVal.neNil tab_ok rfl rfl rfl) ?_ | fail)
  refine zC (o := hC) (h := ?_) (hro := RoIn.nil)
  repeat (first | refine zL ?_ | (first | refine zGo ?_ | refine zSk ?_ | refine zUn ?_ | refine zGo ?_ (hw := by exact gd hnn) | refine zSk ?_ (hw := by exact gd hnn) | fail) | (first | refine zPT ?_ | refine zPF ?_ | refine zPT ?_ (hb := by exact gd hnn) | refine zPF ?_ (hb := by exact gd hnn) | fail) | refine zV (OpVal.add rfl rfl (i64_in _ (by omega))) ?_ | refine zV (OpVal.sub rfl rfl (i64_in _ (by omega))) ?_ | refine zV (OpVal.neBool tab_ok rfl rfl rfl) ?_ | refine zV (OpVal.eqBool tab_ok rfl rfl rfl) ?_ | refine zV (OpVal.eqNil tab_ok rfl rfl rfl) ?_ | refine zV (OpVal.neNil tab_ok rfl rfl rfl) ?_ | fail)
  refine zC (o := hS) (h := ?_) (hro := RoIn.same)
  repeat (first | refine zL ?_ | (first | refine zGo ?_ | refine zSk ?_ | refine zUn ?_ | refine zGo ?_ (hw := by exact gd hnn) | refine zSk ?_ (hw := by exact gd hnn) | fail) | (first | refine zPT ?_ | refine zPF ?_ | refine zPT ?_ (hb := by exact gd hnn) | refine zPF ?_ (hb := by exact gd hnn) | fail) | refine zV (OpVal.add rfl rfl (i64_in _ (by omega))) ?_ | refine zV (OpVal.sub rfl rfl (i64_in _ (by omega))) ?_ | refine zV (OpVal.neBool tab_ok rfl rfl rfl) ?_ | refine zV (OpVal.eqBool tab_ok rfl rfl rfl) ?_ | refine zV (OpVal.eqNil tab_ok rfl rfl rfl) ?_ | refine zV (OpVal.neNil tab_ok rfl rfl rfl) ?_ | fail)
  refine WZ.nil (aG ?_)
  rcases Classical.em ((⟨(j : Int), p1, f1, l1, d1⟩ : Rq) = q') with hs | hs
  case' inr =>
    rw [if_pos (.inr hs)] at hrc
    subst hrc
    repeat (first | refine gh hs ?_ | refine gN fun _ => ?_ | refine gB fun _ => ?_ | fail)
    refine W.ret (fin _ _ (FinOk.first 0 (.tmp rfl .nil) rfl ?_))
    exact ⟨rfl, rfl⟩
  rw [if_neg (by simp [hs]; omega)] at hrc
  repeat (first | refine gh hs ?_ | refine gN fun _ => ?_ | refine gB fun _ => ?_ | fail)
  rcases (show (¬ (j : Int) = 6 ∧ ¬ (j : Int) = 8 ∧ p1 < 0) ∨ (¬ (j : Int) = 6 ∧ ¬ (j : Int) = 8 ∧ ¬ p1 < 0 ∧ p1 ≥ pages) ∨ ((j : Int) = 6) ∨ (¬ (j : Int) = 6 ∧ (j : Int) = 8) ∨ (¬ (j : Int) = 6 ∧ ¬ (j : Int) = 8 ∧ ¬ p1 < 0 ∧ ¬ p1 ≥ pages) by omega) with ⟨h1, h2, h3⟩ | ⟨h1, h2, h3, h4⟩ | h1 | ⟨h1, h2⟩ | ⟨h1, h2, h3, h4⟩
  case' inl.inl =>
    rw [if_pos ⟨h1, h2, .inl h3⟩] at hrc
    subst hrc
    repeat (first | refine gh (gc3 h1 h2 h3) ?_ | refine gN fun _ => ?_ | refine gB fun _ => ?_ | fail)
    refine W.ret (fin _ _ (FinOk.first 0 (.tmp rfl .nil) rfl ?_))
    exact ⟨rfl, rfl⟩
  case' inl.inr.inl =>
    rw [if_pos ⟨h1, h2, .inr h4⟩] at hrc
    subst hrc
    repeat (first | refine gh (gc4 h1 h2 h3 h4) ?_ | refine gN fun _ => ?_ | refine gB fun _ => ?_ | fail)
    refine W.ret (fin _ _ (FinOk.first 0 (.tmp rfl .nil) rfl ?_))
    exact ⟨rfl, rfl⟩
  case' inl.inr.inr.inl =>
    repeat (first | refine gh h1 ?_ | refine gN fun _ => ?_ | refine gB fun _ => ?_ | fail)
  case' inl.inr.inr.inr.inl =>
    repeat (first | refine gh (gc2 h1 h2) ?_ | refine gN fun _ => ?_ | refine gB fun _ => ?_ | fail)
  case' inl.inr.inr.inr.inr =>
    repeat (first | refine gh (gc4 h1 h2 h3 h4) ?_ | refine gN fun _ => ?_ | refine gB fun _ => ?_ | fail)
  all_goals
    rw [if_neg (by omega)] at hrc
    unfold i64s at hoi
    rcases (show f1 < 0 ∨ (¬ f1 < 0 ∧ f1 > 32) ∨ (¬ f1 < 0 ∧ ¬ f1 > 32 ∧ l1 < 0) ∨ (¬ f1 < 0 ∧ ¬ f1 > 32 ∧ ¬ l1 < 0 ∧ l1 > 32 - f1) ∨ (¬ f1 < 0 ∧ ¬ f1 > 32 ∧ ¬ l1 < 0 ∧ ¬ l1 > 32 - f1 ∧ (d1.length : Int) > 32 - f1) ∨ (¬ f1 < 0 ∧ ¬ f1 > 32 ∧ ¬ l1 < 0 ∧ ¬ l1 > 32 - f1 ∧ ¬ (d1.length : Int) > 32 - f1) by omega) with k1 | ⟨k1, k2⟩ | ⟨k1, k2, k3⟩ | ⟨k1, k2, k3, k4⟩ | ⟨k1, k2, k3, k4, k5⟩ | ⟨k1, k2, k3, k4, k5⟩
    · rw [if_pos (by omega)] at hrc
      subst hrc
      repeat (first | refine gh k1 ?_ | refine gN fun _ => ?_ | refine gB fun _ => ?_ | fail)
      refine W.ret (fin _ _ (FinOk.first 0 (.tmp rfl .nil) rfl ?_))
      exact ⟨rfl, rfl⟩
    · rw [if_pos (by omega)] at hrc
      subst hrc
      repeat (first | refine gh (gc2 k1 k2) ?_ | refine gN fun _ => ?_ | refine gB fun _ => ?_ | fail)
      refine W.ret (fin _ _ (FinOk.first 0 (.tmp rfl .nil) rfl ?_))
      exact ⟨rfl, rfl⟩
    · rw [if_pos (by omega)] at hrc
      subst hrc
      repeat (first | refine gh (gc3 k1 k2 k3) ?_ | refine gN fun _ => ?_ | refine gB fun _ => ?_ | fail)
      refine W.ret (fin _ _ (FinOk.first 0 (.tmp rfl .nil) rfl ?_))
      exact ⟨rfl, rfl⟩
    · rw [if_pos (by omega)] at hrc
      subst hrc
      repeat (first | refine gh (gc4 k1 k2 k3 k4) ?_ | refine gN fun _ => ?_ | refine gB fun _ => ?_ | fail)
      refine W.ret (fin _ _ (FinOk.first 0 (.tmp rfl .nil) rfl ?_))
      exact ⟨rfl, rfl⟩
    · rw [if_pos (by omega)] at hrc
      subst hrc
      repeat (first | refine gh (gc5 k1 k2 k3 k4 k5) ?_ | refine gN fun _ => ?_ | refine gB fun _ => ?_ | fail)
      refine W.ret (fin _ _ (FinOk.first 0 (.tmp rfl .nil) rfl ?_))
      exact ⟨rfl, rfl⟩
    · rw [if_neg (by omega)] at hrc
      subst hrc
      repeat (first | refine gh (gc5 k1 k2 k3 k4 k5) ?_ | refine gN fun _ => ?_ | refine gB fun _ => ?_ | fail)
      refine W.ret (fin _ _ (FinOk.first 0 (.tmp rfl .nil) rfl ?_))
      exact ⟨rfl, rfl⟩
theorem Check_no (q : Rq) (pages : Int) (h : q.op < 1 ∨ 8 < q.op) (hi : i64s q.op) (a : Option Addr) (c : Nat) : Ctr Tryz.prog 27 [q.v a c, .int .i64 pages] [] [] (fun v L' => v = .int .i64 (rcheck q pages) ∧ L' = []) := by
  have hrc : rcheck q pages = 2 := by unfold rcheck; rw [if_pos (.inl (by omega))]
  rw [hrc]
  have hN : Ctr Tryz.prog 50 [.int .i64 q.op] [] [] (fun v L' => v = .string ⟨#[]⟩ ∧ L' = []) := by
    rcases Classical.em (q.op = 0) with h0 | h0
    · rw [h0]; exact RName_spec 0 (by decide)
    · exact RName_no q.op (by omega)
  have hnn : ((⟨#[]⟩ : ByteArray).toList == (⟨#[]⟩ : ByteArray).toList) = true := by decide +kernel
  obtain ⟨o1, p1, f1, l1, d1⟩ := q
  simp only at *
  refine Ctr.enter (n := 69) [.tmp 4] [(0, _), (1, _)] Tryz.func27 rfl rfl rfl (lb rfl) Tryz.call27 ⟨rfl, rfl, trivial⟩ ?_
  intro cx fin fin0
  refine aG ?_
  repeat (first | refine gx ?_ | refine gN fun _ => ?_ | refine gB fun _ => ?_ | fail)
  refine W.draw follows (by decide +kernel) (zG ?_)
  repeat (first | refine zL ?_ | (first | refine zGo ?_ | refine zSk ?_ | refine zUn ?_ | fail) | (first | refine zPT ?_ | refine zPF ?_ | fail) | refine zV (OpVal.add rfl rfl (i64_in _ (by omega))) ?_ | refine zV (OpVal.sub rfl rfl (i64_in _ (by omega))) ?_ | refine zV (OpVal.neBool tab_ok rfl rfl rfl) ?_ | refine zV (OpVal.eqBool tab_ok rfl rfl rfl) ?_ | refine zV (OpVal.eqNil tab_ok rfl rfl rfl) ?_ | refine zV (OpVal.neNil tab_ok rfl rfl rfl) ?_ | fail)
  refine zC (o := hN) (h := ?_)
  refine zV (OpVal.eqStr rfl rfl) ?_
  repeat (first | refine zL ?_ | (first | refine zGo ?_ | refine zSk ?_ | refine zUn ?_ | refine zGo ?_ (hw := by exact gd hnn) | refine zSk ?_ (hw := by exact gd hnn) | fail) | (first | refine zPT ?_ | refine zPF ?_ | refine zPT ?_ (hb := by exact gd hnn) | refine zPF ?_ (hb := by exact gd hnn) | fail) | refine zV (OpVal.add rfl rfl (i64_in _ (by omega))) ?_ | refine zV (OpVal.sub rfl rfl (i64_in _ (by omega))) ?_ | refine zV (OpVal.neBool tab_ok rfl rfl rfl) ?_ | refine zV (OpVal.eqBool tab_ok rfl rfl rfl) ?_ | refine zV (OpVal.eqNil tab_ok rfl rfl rfl) ?_ | refine zV (OpVal.neNil tab_ok rfl rfl rfl) ?_ | fail)
  refine WZ.nil (aG ?_)
  repeat (first | refine gh hnn ?_ | refine gN fun _ => ?_ | refine gB fun _ => ?_ | fail)
  refine W.ret (fin _ _ (FinOk.first 0 (.tmp rfl .nil) rfl ?_))
  exact ⟨rfl, rfl⟩
theorem Check_spec (q : Rq) (pages : Int) (hu : u8ok q.data) (hl : q.data.length ≤ 1000000) (a : Option Addr) (c : Nat) (ro : HL) (hro : RoSl 1 (u8s q.data) a q.data.length ro) (hoi : i64s q.off) (hi : i64s q.op) :
    Ctr Tryz.prog 27 [q.v a c, .int .i64 pages] [] ro (fun v L' => v = .int .i64 (rcheck q pages) ∧ L' = []) := by
  have e0 : RoSl 1 (u8s []) none ([] : List Int).length [] := ⟨rfl, .inl ⟨rfl, rfl⟩⟩
  have u0 : u8ok [] := fun b hb => by cases hb
  have nil : ∀ {q' : Rq} {a' c'}, Ctr Tryz.prog 51 [q.v a c, q'.v a' c'] [] (ro ++ []) (fun v L' => v = .bool (decide (q = q')) ∧ L' = []) → Ctr Tryz.prog 51 [q.v a c, q'.v a' c'] [] ro (fun v L' => v = .bool (decide (q = q')) ∧ L' = []) := fun h => h.ro (by simp)
  have dbl : ∀ {q' : Rq} {a' c'}, Ctr Tryz.prog 51 [q.v a c, q'.v a' c'] [] (ro ++ ro) (fun v L' => v = .bool (decide (q = q')) ∧ L' = []) → Ctr Tryz.prog 51 [q.v a c, q'.v a' c'] [] ro (fun v L' => v = .bool (decide (q = q')) ∧ L' = []) := fun h => h.ro (by simp)
  rcases Classical.em (1 ≤ q.op ∧ q.op ≤ 8) with hop | hop
  case inr => exact (Check_no q pages (by omega) hi a c).ro (fun _ h => by cases h)
  have hS1 := nil (Same_spec q (⟨q.op, q.page, 0, 0, []⟩ : Rq) hu u0 a c ro hro none 0 [] e0)
  have hS2 := nil (Same_spec q (⟨q.op, 0, 0, 0, []⟩ : Rq) hu u0 a c ro hro none 0 [] e0)
  have hS3 := nil (Same_spec q (⟨q.op, q.page, q.off, q.len, []⟩ : Rq) hu u0 a c ro hro none 0 [] e0)
  have hS4 := dbl (Same_spec q (⟨q.op, q.page, q.off, 0, q.data⟩ : Rq) hu hu a c ro hro a c ro hro)
  have hk : q.op = ((1 : Nat) : Int) ∨ q.op = ((2 : Nat) : Int) ∨ q.op = ((3 : Nat) : Int) ∨ q.op = ((4 : Nat) : Int) ∨ q.op = ((5 : Nat) : Int) ∨ q.op = ((6 : Nat) : Int) ∨ q.op = ((7 : Nat) : Int) ∨ q.op = ((8 : Nat) : Int) := by omega
  rcases hk with h | h | h | h | h | h | h | h
  · exact Check_go 1 _ (by decide) (by decide) rfl (by kernel_rfl) (by decide +kernel) q _ h (by unfold rnamed; rw [h]; rfl) hl pages a c _ _ ro hoi (Nm1_spec q a c) hS1
  · exact Check_go 2 _ (by decide) (by decide) rfl (by kernel_rfl) (by decide +kernel) q _ h (by unfold rnamed; rw [h]; rfl) hl pages a c _ _ ro hoi (Nm3_spec q a c) hS3
  · exact Check_go 3 _ (by decide) (by decide) rfl (by kernel_rfl) (by decide +kernel) q _ h (by unfold rnamed; rw [h]; rfl) hl pages a c _ _ ro hoi (Nm4_spec q a c) hS4
  · exact Check_go 4 _ (by decide) (by decide) rfl (by kernel_rfl) (by decide +kernel) q _ h (by unfold rnamed; rw [h]; rfl) hl pages a c _ _ ro hoi (Nm1_spec q a c) hS1
  · exact Check_go 5 _ (by decide) (by decide) rfl (by kernel_rfl) (by decide +kernel) q _ h (by unfold rnamed; rw [h]; rfl) hl pages a c _ _ ro hoi (Nm1_spec q a c) hS1
  · exact Check_go 6 _ (by decide) (by decide) rfl (by kernel_rfl) (by decide +kernel) q _ h (by unfold rnamed; rw [h]; rfl) hl pages a c _ _ ro hoi (Nm2_spec q a c) hS2
  · exact Check_go 7 _ (by decide) (by decide) rfl (by kernel_rfl) (by decide +kernel) q _ h (by unfold rnamed; rw [h]; rfl) hl pages a c _ _ ro hoi (Nm1_spec q a c) hS1
  · exact Check_go 8 _ (by decide) (by decide) rfl (by kernel_rfl) (by decide +kernel) q _ h (by unfold rnamed; rw [h]; rfl) hl pages a c _ _ ro hoi (Nm2_spec q a c) hS2
end Go.Proofs.YtfajcpnbhnddbaaGreat
namespace Go.Proofs.YtfajcpnbhnddbaaGreat
open Go Go.Sl Go.IntWalk
set_option maxHeartbeats 2000000
set_option maxRecDepth 20000
set_option linter.unusedVariables false
theorem RCAdd_spec (c : C6) (k n : Int) (hc : c.Ok) (hn : u64 n) : Ctr Tryz.prog 123 [c.v, .int .i64 k, .int .u64 n] [] [] (fun v L' => v = (c.add k n).v ∧ L' = []) := by
  obtain ⟨h1, h2, h3, h4, h5, h6⟩ := hc
  refine Ctr.enter (n := 51) [.cell 6 40] [(0, _), (1, _), (2, _)] Tryz.func123 rfl rfl rfl (lb rfl) Tryz.call123 ⟨rfl, rfl, rfl, trivial⟩ ?_
  intro cx fin fin0
  refine aG ?_
  repeat (first | refine gw ?_ | refine gN fun _ => ?_ | refine gB fun _ => ?_ | fail)
  by_cases hk : 0 ≤ k ∧ k < 6
  · rcases kinds hk with rfl | rfl | rfl | rfl | rfl | rfl
    all_goals
      repeat (refine W.iteF rfl (by decide) (W.step tab_ok rfl rfl ?_))
      refine aT ?_
      repeat (first | refine gw ?_ | refine gN fun _ => ?_ | refine gB fun _ => ?_ | fail)
      refine aC (o := Together_spec _ _ (by assumption) hn) (h := ?_)
      rintro _ _ ⟨rfl, rfl⟩
      refine aG ?_
      repeat (first | refine gw ?_ | refine gN fun _ => ?_ | refine gB fun _ => ?_ | fail)
      refine W.ret (fin _ _ (FinOk.mk' ([]) (aRc .nil) (by repeat (first | exact Sel.nil | (apply Sel.cons; (repeat (first | exact Pick.here | apply Pick.there))))) rfl ?_))
      exact ⟨rfl, rfl⟩
  · refine aF ?_ (hb := by simp; omega)
    refine aF ?_ (hb := by simp; omega)
    refine aF ?_ (hb := by simp; omega)
    refine aF ?_ (hb := by simp; omega)
    refine aF ?_ (hb := by simp; omega)
    refine aF ?_ (hb := by simp; omega)
    repeat (first | refine gw ?_ | refine gN fun _ => ?_ | refine gB fun _ => ?_ | fail)
    refine W.ret (fin _ _ (FinOk.mk' ([]) (aRc .nil) (by repeat (first | exact Sel.nil | (apply Sel.cons; (repeat (first | exact Pick.here | apply Pick.there))))) rfl ?_))
    refine ⟨?_, rfl⟩
    unfold C6.add
    repeat rw [if_neg (by omega)]
    rfl
theorem RCGet_spec (c : C6) (k : Int) : Ctr Tryz.prog 122 [c.v, .int .i64 k] [] [] (fun v L' => v = .tuple #[.int .u64 (c.get k).1, .bool (c.get k).2] ∧ L' = []) := by
  refine Ctr.enter (n := 31) [.tmp 4, .tmp 5] [(0, _), (1, _)] Tryz.func122 rfl rfl rfl (lb rfl) Tryz.call122 ⟨rfl, rfl, trivial⟩ ?_
  intro cx fin fin0
  refine aG ?_
  repeat (first | refine gw ?_ | refine gN fun _ => ?_ | refine gB fun _ => ?_ | fail)
  by_cases hk : 0 ≤ k ∧ k < 6
  · rcases kinds hk with rfl | rfl | rfl | rfl | rfl | rfl
    all_goals
      repeat (refine W.iteF rfl (by decide) (W.step tab_ok rfl rfl ?_))
      refine aT ?_
      repeat (first | refine gw ?_ | refine gN fun _ => ?_ | refine gB fun _ => ?_ | fail)
      refine W.ret (fin _ _ (FinOk.mk' ([]) (.tmp rfl (.tmp rfl .nil)) (by repeat (first | exact Sel.nil | (apply Sel.cons; (repeat (first | exact Pick.here | apply Pick.there))))) rfl ?_))
      exact ⟨rfl, rfl⟩
  · refine aF ?_ (hb := by simp; omega)
    refine aF ?_ (hb := by simp; omega)
    refine aF ?_ (hb := by simp; omega)
    refine aF ?_ (hb := by simp; omega)
    refine aF ?_ (hb := by simp; omega)
    refine aF ?_ (hb := by simp; omega)
    refine W.ret (fin _ _ (FinOk.mk' ([]) (.tmp rfl (.tmp rfl .nil)) (by repeat (first | exact Sel.nil | (apply Sel.cons; (repeat (first | exact Pick.here | apply Pick.there))))) rfl ?_))
    refine ⟨?_, rfl⟩
    unfold C6.get
    repeat rw [if_neg (by omega)]
    rfl
theorem Get_spec (c : C6) (k : Int) : Ctr Tryz.prog 81 [c.v, .int .i64 k] [] [] (fun v L' => v = .tuple #[.int .u64 (c.get k).1, .bool (c.get k).2] ∧ L' = []) := by
  refine Ctr.enter (n := 14) [.tmp 4, .tmp 5] [(0, _), (1, _)] Tryz.func81 rfl rfl rfl (lb rfl) Tryz.call81 ⟨rfl, rfl, trivial⟩ ?_
  intro cx fin fin0
  refine aG ?_
  repeat (first | refine gw ?_ | refine gN fun _ => ?_ | refine gB fun _ => ?_ | fail)
  by_cases hk : 0 ≤ k ∧ k < 6
  · rcases kinds hk with rfl | rfl | rfl | rfl | rfl | rfl
    all_goals
      refine aC (o := of_yes _ _ (by omega)) (h := ?_)
      rintro _ _ ⟨rfl, rfl⟩
      refine aG ?_
      refine aV (OpVal.eqNil tab_ok rfl rfl rfl) ?_
      refine aF ?_
      repeat (first | refine gw ?_ | refine gN fun _ => ?_ | refine gB fun _ => ?_ | fail)
      refine W.ret (fin _ _ (FinOk.mk' ([]) (.tmp rfl (.tmp rfl .nil)) (by repeat (first | exact Sel.nil | (apply Sel.cons; (repeat (first | exact Pick.here | apply Pick.there))))) rfl ?_))
      exact ⟨rfl, rfl⟩
  · refine aC (o := of_no _ _ hk) (h := ?_)
    rintro _ _ ⟨rfl, rfl⟩
    refine aG ?_
    refine aV (OpVal.eqNil tab_ok rfl rfl rfl) ?_
    refine aT ?_
    refine W.ret (fin _ _ (FinOk.mk' ([]) (.tmp rfl (.tmp rfl .nil)) (by repeat (first | exact Sel.nil | (apply Sel.cons; (repeat (first | exact Pick.here | apply Pick.there))))) rfl ?_))
    refine ⟨?_, rfl⟩
    unfold C6.get
    repeat rw [if_neg (by omega)]
    rfl
def C6.plus (a c : C6) (j : Nat) : C6 := (List.range j).foldl (fun a (i : Nat) => a.add (i : Int) (c.get (i : Int)).1) a
def sumTo (acc : C6) (xs : List C6) : C6 := xs.foldl (fun a c => a.plus c 6) acc
def sumC (xs : List C6) : C6 := sumTo ⟨0, 0, 0, 0, 0, 0⟩ xs
theorem C6.plus_succ (a c : C6) (j : Nat) : a.plus c (j + 1) = (a.plus c j).add (j : Int) (c.get (j : Int)).1 := by
  unfold C6.plus
  rw [List.range_succ, List.foldl_append]
  rfl
theorem C6.plus_ok {a c : C6} (ha : a.Ok) (hc : c.Ok) (j : Nat) : (a.plus c j).Ok := by
  induction j with
  | zero => exact ha
  | succ j ih => rw [C6.plus_succ]; exact C6.add_ok ih _ (C6.get_u64 hc _)
theorem C6.l_len (c : C6) : c.l.length = 6 := rfl
theorem sumC_take (xs : List C6) (i : Nat) (hi : i < xs.length) : sumC (xs.take (i + 1)) = (sumC (xs.take i)).plus xs[i] 6 := by
  unfold sumC sumTo
  rw [List.take_add_one, List.foldl_append]
  simp [hi]
theorem zero_ok : (⟨0, 0, 0, 0, 0, 0⟩ : C6).Ok := ⟨⟨by decide, by decide⟩, ⟨by decide, by decide⟩, ⟨by decide, by decide⟩, ⟨by decide, by decide⟩, ⟨by decide, by decide⟩, ⟨by decide, by decide⟩⟩
theorem sumC_ok {xs : List C6} (h : ∀ c ∈ xs, c.Ok) : (sumC xs).Ok := by
  unfold sumC
  have : ∀ (xs : List C6) (acc : C6), acc.Ok → (∀ c ∈ xs, c.Ok) → (sumTo acc xs).Ok := by
    intro xs
    induction xs with
    | nil => intro acc ha _; exact ha
    | cons x xs ih => intro acc ha h; exact ih _ (C6.plus_ok ha (h x (by simp)) 6) (fun c hc => h c (by simp [hc]))
  exact this xs _ zero_ok h
theorem Sum_spec (xs : List C6) (hx : ∀ c ∈ xs, c.Ok) (hlen : xs.length ≤ 1000) (a : Option Addr) (cap : Nat) (ro : HL) (hro : RoSl 6 (xs.flatMap C6.l) a xs.length ro) :
    Ctr Tryz.prog 57 [.slice a xs.length cap] [] ro (fun v L' => v = (sumC xs).v ∧ L' = []) := by
  refine Ctr.enter (n := 31) [.cell 2 40] [(0, _)] Tryz.func57 rfl rfl rfl (lb rfl) Tryz.call57 ⟨rfl, trivial⟩ ?_
  intro cx fin fin0
  refine aG ?_
  refine W.new tab_ok rfl rfl (by decide) ?_
  intro b2
  refine aG ?_
  refine W.new tab_ok rfl rfl (by decide) ?_
  intro b3
  refine aG ?_
  refine aLp (fun m ρ1 L1 => ∃ (i : Nat) (acc : C6), i ≤ xs.length ∧ acc = sumC (xs.take i) ∧ m = xs.length - i ∧ ρ1 = [(9, .slice a xs.length cap), (10, .int .i64 (xs.length : Int)), (11, .int .i64 (i : Int)), (2, .pointer (some ⟨b2, 0, none⟩)), (3, .pointer (some ⟨b3, 0, none⟩))] ∧ L1 = [[(b3, .cells acc.l.toArray 40 (0, 0))], [(b2, .cells (⟨0, 0, 0, 0, 0, 0⟩ : C6).l.toArray 40 (0, 0))]]) (o := ⟨0, ⟨0, 0, 0, 0, 0, 0⟩, Nat.zero_le _, rfl, rfl, rfl, rfl⟩) (h := ?_)
  rintro m ρ1 L1 ⟨i, acc, hi, hacce, rfl, rfl, rfl⟩
  refine aG ?_
  by_cases hlt : i < xs.length
  · refine aT ?_ (hb := by simp; omega)
    rcases hro.2 with ⟨h0, _⟩ | ⟨b, off, l, e, fr, rfl, rfl, hl, hcs⟩
    · omega
    have hseg := RoSl.elem C6.l_len hl hcs hlt
    have hok : xs[i].Ok := hx _ (List.getElem_mem hlt)
    have hnx : sumC (xs.take (i + 1)) = acc.plus xs[i] 6 := by rw [sumC_take xs i hlt, ← hacce]
    generalize xs[i] = x at hseg hok hnx
    have hacc : acc.Ok := hacce ▸ sumC_ok (fun c hc => hx c (List.mem_of_mem_take hc))
    refine aV (OpVal.ixSl tab_ok rfl rfl rfl rfl rfl hlt) ?_
    refine aV (OpVal.load tab_ok rfl (at_ro 0 rfl) (by show (match seg? l (off + i * 6) 6 with | some vs => some (Value.agg ⟨vs⟩) | none => none) = _; rw [hseg])) ?_
    refine W.new tab_ok rfl rfl (by decide) ?_
    intro b5
    refine aG ?_
    refine W.store tab_ok rfl Upd.here rfl rfl rfl rfl rfl rfl (W.step tab_ok rfl rfl ?_)
    refine aLp (fun m ρ1 L1 => ∃ (j : Nat) (ac2 : C6), j ≤ 6 ∧ ac2 = acc.plus x j ∧ m = 6 - j ∧ ρ1 = [(15, .int .i64 (j : Int)), (5, .pointer (some ⟨b5, 0, none⟩)), (9, .slice (some ⟨b, off, none⟩) xs.length cap), (10, .int .i64 (xs.length : Int)), (11, .int .i64 (i : Int)), (2, .pointer (some ⟨b2, 0, none⟩)), (3, .pointer (some ⟨b3, 0, none⟩))] ∧ L1 = [[(b3, .cells ac2.l.toArray 40 (0, 0))], [(b5, .cells x.l.toArray 40 (0, 0))], [(b2, .cells (⟨0, 0, 0, 0, 0, 0⟩ : C6).l.toArray 40 (0, 0))]]) (o := ⟨0, acc, Nat.zero_le _, rfl, rfl, rfl, rfl⟩) (h := ?_)
    rintro m ρ1 L1 ⟨j, ac2, hj, rfl, rfl, rfl, rfl⟩
    refine aG ?_
    by_cases hjl : j < 6
    · refine aT ?_ (hb := by simp; omega)
      repeat (first | refine gw ?_ | refine gN fun _ => ?_ | refine gB fun _ => ?_ | fail)
      refine aC (o := Get_spec x (j : Int)) (h := ?_)
      rintro _ _ ⟨rfl, rfl⟩
      refine aG ?_
      repeat (first | refine gw ?_ | refine gN fun _ => ?_ | refine gB fun _ => ?_ | fail)
      refine aC (o := Add_spec (acc.plus x j) (j : Int) (x.get (j : Int)).1 (C6.plus_ok hacc hok j) (C6.get_u64 hok _)) (h := ?_)
      rintro _ _ ⟨rfl, rfl⟩
      refine aG ?_
      repeat (first | refine gw ?_ | refine gN fun _ => ?_ | refine gB fun _ => ?_ | fail)
      refine aV (OpVal.add rfl rfl (i64_in _ (by omega))) ?_
      refine aR (o := ⟨6 - (j + 1), by omega, j + 1, _, by omega, (C6.plus_succ _ _ _).symm, rfl, rfl, rfl⟩)
    · refine aF ?_ (hb := by simp; omega)
      have hj6 : j = 6 := by omega
      subst hj6
      refine aV (OpVal.add rfl rfl (i64_in _ (by omega))) ?_
      refine aR (o := ⟨xs.length - (i + 1), by omega, i + 1, _, by omega, hnx.symm, rfl, rfl, rfl⟩)
  · refine aF ?_ (hb := by simp; omega)
    have : i = xs.length := by omega
    subst this
    repeat (first | refine gw ?_ | refine gN fun _ => ?_ | refine gB fun _ => ?_ | fail)
    refine W.ret (fin _ _ (FinOk.mk' ([]) (aRc .nil) (by repeat (first | exact Sel.nil | (apply Sel.cons; (repeat (first | exact Pick.here | apply Pick.there))))) rfl ?_))
    refine ⟨?_, rfl⟩
    rw [List.take_length] at hacce
    rw [← hacce]
    rfl
theorem RSum_spec (xs : List C6) (hx : ∀ c ∈ xs, c.Ok) (hlen : xs.length ≤ 1000) (a : Option Addr) (cap : Nat) (ro : HL) (hro : RoSl 6 (xs.flatMap C6.l) a xs.length ro) :
    Ctr Tryz.prog 96 [.slice a xs.length cap] [] ro (fun v L' => v = (sumC xs).v ∧ L' = []) := by
  refine Ctr.enter (n := 32) [.cell 2 40] [(0, _)] Tryz.func96 rfl rfl rfl (lb rfl) Tryz.call96 ⟨rfl, trivial⟩ ?_
  intro cx fin fin0
  refine aG ?_
  refine W.new tab_ok rfl rfl (by decide) ?_
  intro b2
  refine aG ?_
  refine W.new tab_ok rfl rfl (by decide) ?_
  intro b3
  refine aG ?_
  refine aLp (fun m ρ1 L1 => ∃ (i : Nat) (acc : C6), i ≤ xs.length ∧ acc = sumC (xs.take i) ∧ m = xs.length - i ∧ ρ1 = [(0, .slice a xs.length cap), (4, .int .i64 (i : Int)), (2, .pointer (some ⟨b2, 0, none⟩)), (3, .pointer (some ⟨b3, 0, none⟩))] ∧ L1 = [[(b3, .cells acc.l.toArray 40 (0, 0))], [(b2, .cells (⟨0, 0, 0, 0, 0, 0⟩ : C6).l.toArray 40 (0, 0))]]) (o := ⟨0, ⟨0, 0, 0, 0, 0, 0⟩, Nat.zero_le _, rfl, rfl, rfl, rfl⟩) (h := ?_)
  rintro m ρ1 L1 ⟨i, acc, hi, hacce, rfl, rfl, rfl⟩
  refine aG ?_
  by_cases hlt : i < xs.length
  · refine aT ?_ (hb := by simp; omega)
    rcases hro.2 with ⟨h0, _⟩ | ⟨b, off, l, e, fr, rfl, rfl, hl, hcs⟩
    · omega
    have hseg := RoSl.elem C6.l_len hl hcs hlt
    have hacc : acc.Ok := hacce ▸ sumC_ok (fun c hc => hx c (List.mem_of_mem_take hc))
    have hok : xs[i].Ok := hx _ (List.getElem_mem hlt)
    have hnx : sumC (xs.take (i + 1)) = acc.plus xs[i] 6 := by rw [sumC_take xs i hlt, ← hacce]
    generalize xs[i] = x at hseg hok hnx
    refine aLp (fun m ρ1 L1 => ∃ (j : Nat) (ac2 : C6), j ≤ 6 ∧ ac2 = acc.plus x j ∧ m = 6 - j ∧ ρ1 = [(5, .int .i64 (j : Int)), (0, .slice (some ⟨b, off, none⟩) xs.length cap), (4, .int .i64 (i : Int)), (2, .pointer (some ⟨b2, 0, none⟩)), (3, .pointer (some ⟨b3, 0, none⟩))] ∧ L1 = [[(b3, .cells ac2.l.toArray 40 (0, 0))], [(b2, .cells (⟨0, 0, 0, 0, 0, 0⟩ : C6).l.toArray 40 (0, 0))]]) (o := ⟨0, acc, Nat.zero_le _, rfl, rfl, rfl, rfl⟩) (h := ?_)
    rintro m ρ1 L1 ⟨j, ac2, hj, rfl, rfl, rfl, rfl⟩
    refine aG ?_
    by_cases hjl : j < 6
    · refine aT ?_ (hb := by simp; omega)
      refine aV (OpVal.ixSl tab_ok rfl rfl rfl rfl rfl hlt) ?_
      refine aV (OpVal.load tab_ok rfl (at_ro 0 rfl) (by show (match seg? l (off + i * 6) 6 with | some vs => some (Value.agg ⟨vs⟩) | none => none) = _; rw [hseg])) ?_
      refine aC (o := RCGet_spec x (j : Int)) (h := ?_)
      rintro _ _ ⟨rfl, rfl⟩
      refine aG ?_
      repeat (first | refine gw ?_ | refine gN fun _ => ?_ | refine gB fun _ => ?_ | fail)
      refine aC (o := RCAdd_spec (acc.plus x j) (j : Int) (x.get (j : Int)).1 (C6.plus_ok hacc hok j) (C6.get_u64 hok _)) (h := ?_)
      rintro _ _ ⟨rfl, rfl⟩
      refine aG ?_
      repeat (first | refine gw ?_ | refine gN fun _ => ?_ | refine gB fun _ => ?_ | fail)
      refine aV (OpVal.add rfl rfl (i64_in _ (by omega))) ?_
      refine aR (o := ⟨6 - (j + 1), by omega, j + 1, _, by omega, (C6.plus_succ _ _ _).symm, rfl, rfl, rfl⟩)
    · refine aF ?_ (hb := by simp; omega)
      have hj6 : j = 6 := by omega
      subst hj6
      refine aV (OpVal.add rfl rfl (i64_in _ (by omega))) ?_
      refine aR (o := ⟨xs.length - (i + 1), by omega, i + 1, _, by omega, hnx.symm, rfl, rfl, rfl⟩)
  · refine aF ?_ (hb := by simp; omega)
    have : i = xs.length := by omega
    subst this
    repeat (first | refine gw ?_ | refine gN fun _ => ?_ | refine gB fun _ => ?_ | fail)
    refine W.ret (fin _ _ (FinOk.mk' ([]) (aRc .nil) (by repeat (first | exact Sel.nil | (apply Sel.cons; (repeat (first | exact Pick.here | apply Pick.there))))) rfl ?_))
    refine ⟨?_, rfl⟩
    rw [List.take_length] at hacce
    rw [← hacce]
    rfl
end Go.Proofs.YtfajcpnbhnddbaaGreat
namespace Go.Proofs.YtfajcpnbhnddbaaGreat
open Go Go.Sl Go.IntWalk
set_option maxHeartbeats 4000000
set_option maxRecDepth 20000
set_option linter.unusedVariables false
structure Rs where
  id : Int
  errno : Int
  hit : Bool
  tick : Int
  data : List Int
  c : C6
structure Tn where
  m : Mc
  p : Pt
  js : List (Int × Rq)
  pages : Int
  ids : Int
  c : C6
  out : List Rs
def noJob : Int × Rq := (0, ⟨0, 0, 0, 0, []⟩)
def Tn.tell (t : Tn) (x : Re) (tick : Int) : Tn :=
  if x.done = true then { t with c := sumC [t.c, x.add], js := t.js.tail, out := t.out ++ [⟨(t.js.headD noJob).1, x.errno, x.hit, tick, x.data, if (t.js.headD noJob).2.op = 8 then sumC [t.c, x.add] else C6.none⟩] }
  else { t with c := sumC [t.c, x.add] }
def Tn.begun (t : Tn) (tick : Int) : Tn := ({ t with m := (mBegin t.m t.p (t.js.headD noJob).2).1, p := (mBegin t.m t.p (t.js.headD noJob).2).2.1 } : Tn).tell (mBegin t.m t.p (t.js.headD noJob).2).2.2 tick
def Tn.run (tick : Int) : Nat → Tn → Tn
  | 0, t => t
  | n + 1, t => if t.m.todo = [] ∧ t.js ≠ [] then Tn.run tick n (t.begun tick) else t
def Tn.go (t : Tn) (tick : Int) : Tn := t.run tick t.js.length
def Tn.submit (d : Nat) (t : Tn) (q : Rq) (tick : Int) : Tn × Int × Int :=
  if rcheck q t.pages ≠ 0 then (t, 0, rcheck q t.pages) else if d ≤ t.js.length then (t, 0, 8)
  else (({ t with js := t.js ++ [(t.ids + 1, q)], ids := t.ids + 1 } : Tn).go tick, t.ids + 1, 0)
def Tn.over (t : Tn) (e : Int) (bs : List Int) (tick : Int) : Tn :=
  (({ t with m := (mEnd t.m t.p e bs).1, p := (mEnd t.m t.p e bs).2.1 } : Tn).tell (mEnd t.m t.p e bs).2.2 tick).go tick
def Tn.crash (t : Tn) : Tn := { t with m := Mc.idle, p := Pt.new t.p.fs.length, js := [], c := C6.none }
def Tn.taken (t : Tn) : Tn := { t with out := [] }
def Tn.new (n : Nat) (pages : Int) : Tn := ⟨Mc.idle, Pt.new n, [], pages, 0, C6.none, []⟩
structure JOk (q : Rq) : Prop where
  ok : q.Ok
  dl : q.data.length ≤ 32
theorem check_ok {q : Rq} {pages : Int} (h : rcheck q pages = 0) (hu : u8ok q.data) : JOk q := by
  unfold rcheck at h
  split at h
  · cases h
  · rename_i h1
    split at h
    · cases h
    · rename_i h2
      split at h
      · cases h
      · rename_i h3
        have h4 : 1 ≤ q.op ∧ q.op ≤ 8 := Decidable.byContradiction fun hc => h1 (.inl hc)
        have h5 : q = rnamed q := Decidable.byContradiction fun hc => h1 (.inr hc)
        have h6 : 0 ≤ q.page := by
          by_cases h8 : q.op = 6 ∨ q.op = 8
          · have := congrArg Rq.page h5
            unfold rnamed at this
            rw [if_neg (by omega), if_neg (by omega), if_neg (by omega)] at this
            simp only at this
            omega
          · omega
        exact ⟨⟨h4, h6, by unfold i64s; omega, by unfold i64s; omega, hu, by omega⟩, by omega⟩
structure TInv (d : Nat) (t : Tn) : Prop where
  mi : MInv t.m t.p
  cok : t.c.Ok
  jok : ∀ j ∈ t.js, JOk j.2
  len : t.js.length ≤ d
  bz : t.m.todo ≠ [] → t.js ≠ []
  ids : (t.out.length : Int) + t.js.length ≤ t.ids
theorem c6none_ok : C6.none.Ok := zero_ok
theorem sum2_ok {a b : C6} (ha : a.Ok) (hb : b.Ok) : (sumC [a, b]).Ok := sumC_ok fun c hc => by
  simp only [List.mem_cons, List.not_mem_nil, or_false] at hc
  rcases hc with rfl | rfl <;> assumption
theorem planFetch_ne (p : Int) (d : Bool) (o : Int) : planFetch p d o ≠ [] := by cases d <;> simp [planFetch, pages, both]
theorem planFlush_ne (ps : List Int) : planFlush ps ≠ [] := by simp [planFlush]
theorem c01 {c : C6} (h : c.h = 0 ∨ c.h = 1 := by first | exact .inl rfl | exact .inr rfl) (m : c.m = 0 ∨ c.m = 1 := by first | exact .inl rfl | exact .inr rfl) (e : c.e = 0 ∨ c.e = 1 := by first | exact .inl rfl | exact .inr rfl) (r : c.r = 0 ∨ c.r = 1 := by first | exact .inl rfl | exact .inr rfl) (w : c.w = 0 ∨ c.w = 1 := by first | exact .inl rfl | exact .inr rfl) (f : c.f = 0 ∨ c.f = 1 := by first | exact .inl rfl | exact .inr rfl) : c.Ok := by
  unfold C6.Ok u64; omega
theorem begin_done {m : Mc} {p : Pt} (ht : m.todo = []) (q : Rq) : (mBegin m p q).2.2.add.Ok ∧ ((mBegin m p q).2.2.done = true → (mBegin m p q).1.todo = []) ∧ ((mBegin m p q).2.2.done = false → (mBegin m p q).1.todo ≠ []) := by
  unfold mBegin mOp
  split
  · unfold mFetch
    split
    · refine ⟨?_, fun _ => ht, fun h => ?_⟩
      · simp only; split <;> exact c01
      · simp only at h; split at h <;> cases h
    · unfold mMiss
      split
      · exact ⟨c01, fun _ => ht, fun h => by cases h⟩
      · refine ⟨?_, fun h => (by cases h), fun _ => planFetch_ne _ _ _⟩
        simp only; split <;> exact c01
  · split
    · refine ⟨?_, fun _ => ht, fun h => ?_⟩
      · simp only [mRead]; split <;> exact c01
      · simp only [mRead] at h; split at h <;> cases h
    · split
      · refine ⟨?_, fun _ => ht, fun h => ?_⟩
        · simp only [mWrite]; split <;> exact c01
        · simp only [mWrite] at h; split at h <;> cases h
      · split
        · exact ⟨zero_ok, fun _ => ht, fun h => by cases h⟩
        · split
          · exact ⟨zero_ok, fun h => (by cases h), fun _ => planFlush_ne _⟩
          · split
            · exact ⟨zero_ok, fun h => (by cases h), fun _ => planFlush_ne _⟩
            · split
              · exact ⟨zero_ok, fun _ => ht, fun h => by cases h⟩
              · exact ⟨zero_ok, fun _ => ht, fun h => by cases h⟩
theorem end_done (m : Mc) (p : Pt) (e : Int) (bs : List Int) : (mEnd m p e bs).2.2.add.Ok ∧ ((mEnd m p e bs).2.2.done = true → (mEnd m p e bs).1.todo = []) ∧ ((mEnd m p e bs).2.2.done = false → (mEnd m p e bs).1.todo ≠ []) := by
  have hst : (mStep m p bs).2.2.Ok := by
    unfold mStep
    split
    · unfold mStored; split <;> exact c01
    · split <;> exact zero_ok
  unfold mEnd
  split
  · exact ⟨c01, fun _ => rfl, fun h => by cases h⟩
  · split
    · rename_i h
      exact ⟨hst, fun h => (by cases h), fun _ h2 => by rw [h2] at h; exact absurd h (by decide)⟩
    · exact ⟨hst, fun _ => rfl, fun h => by cases h⟩
theorem tell_inv {d : Nat} {t : Tn} {m : Mc} {p : Pt} {x : Re} (h : TInv d t) (hj : t.js ≠ []) (mi : MInv m p) (ha : x.add.Ok) (h1 : x.done = true → m.todo = []) (tick : Int) : TInv d (({ t with m := m, p := p } : Tn).tell x tick) := by
  unfold Tn.tell
  have hl := h.len
  have hi := h.ids
  have h0 : 0 < t.js.length := List.length_pos_iff.2 hj
  split
  · rename_i hd
    exact ⟨mi, sum2_ok h.cok ha, fun j hm => h.jok j (List.mem_of_mem_tail hm), by simp only [List.length_tail]; omega, fun hb => absurd (h1 hd) hb, by simp only [List.length_tail, List.length_append, List.length_singleton]; omega⟩
  · exact ⟨mi, sum2_ok h.cok ha, h.jok, hl, fun _ => hj, hi⟩
theorem head_mem {js : List (Int × Rq)} (h : js ≠ []) : js.headD noJob ∈ js := by cases js with | nil => exact absurd rfl h | cons j js => simp
theorem begun_inv {d : Nat} {t : Tn} (h : TInv d t) (ht : t.m.todo = []) (hj : t.js ≠ []) (tick : Int) : TInv d (t.begun tick) := by
  have hq := h.jok _ (head_mem hj)
  have hd := begin_done (p := t.p) ht (t.js.headD noJob).2
  exact tell_inv h hj (begin_inv h.mi ht hq.ok.op.1 hq.ok.op.2 hq.ok.u8) hd.1 hd.2.1 tick
theorem run_inv {d : Nat} (tick : Int) : ∀ (n : Nat) {t : Tn}, TInv d t → TInv d (t.run tick n)
  | 0, t, h => h
  | n + 1, t, h => by
    unfold Tn.run
    split
    · rename_i hc; exact run_inv tick n (begun_inv h hc.1 hc.2 tick)
    · exact h
theorem begun_step {t : Tn} (ht : t.m.todo = []) (hj : t.js ≠ []) (tick : Int) : ((t.begun tick).m.todo = [] ∧ (t.begun tick).js = t.js.tail) ∨ ((t.begun tick).m.todo ≠ [] ∧ (t.begun tick).js = t.js) := by
  have hd := begin_done (p := t.p) ht (t.js.headD noJob).2
  unfold Tn.begun Tn.tell
  cases hx : (mBegin t.m t.p (t.js.headD noJob).2).2.2.done with
  | true => rw [if_pos rfl]; exact .inl ⟨hd.2.1 hx, rfl⟩
  | false => rw [if_neg (by simp)]; exact .inr ⟨hd.2.2 hx, rfl⟩
theorem run_busy (tick : Int) : ∀ (n : Nat) {t : Tn}, t.m.todo ≠ [] → t.run tick n = t
  | 0, t, _ => rfl
  | n + 1, t, h => by unfold Tn.run; rw [if_neg (fun hc => h hc.1)]
theorem run_none (tick : Int) : ∀ (n : Nat) {t : Tn}, t.js = [] → t.run tick n = t
  | 0, t, _ => rfl
  | n + 1, t, h => by unfold Tn.run; rw [if_neg (fun hc => hc.2 h)]
theorem go_begun {t : Tn} (ht : t.m.todo = []) (hj : t.js ≠ []) (tick : Int) : t.go tick = (t.begun tick).go tick := by
  have h0 : 0 < t.js.length := List.length_pos_iff.2 hj
  obtain ⟨k, hk⟩ : ∃ k, t.js.length = k + 1 := ⟨t.js.length - 1, by omega⟩
  have e : t.go tick = (t.begun tick).run tick k := by
    unfold Tn.go
    rw [hk]
    show (if t.m.todo = [] ∧ t.js ≠ [] then Tn.run tick k (t.begun tick) else t) = _
    rw [if_pos ⟨ht, hj⟩]
  rw [e]
  rcases begun_step ht hj tick with ⟨h1, h2⟩ | ⟨h1, h2⟩
  · unfold Tn.go
    rw [h2, List.length_tail, hk]
    rfl
  · rw [run_busy _ _ h1]; unfold Tn.go; rw [run_busy _ _ h1]
theorem go_quiet {t : Tn} (h : t.m.todo ≠ [] ∨ t.js = []) (tick : Int) : t.go tick = t := by
  unfold Tn.go
  rcases h with h | h
  · exact run_busy _ _ h
  · exact run_none _ _ h
theorem run_quiet (tick : Int) : ∀ (n : Nat) {t : Tn}, t.js.length ≤ n → (t.run tick n).m.todo = [] → (t.run tick n).js = []
  | 0, t, h, _ => List.length_eq_zero_iff.1 (by show t.js.length = 0; omega)
  | n + 1, t, h, ht => by
    unfold Tn.run at ht ⊢
    by_cases hc : t.m.todo = [] ∧ t.js ≠ []
    · rw [if_pos hc] at ht ⊢
      rcases begun_step hc.1 hc.2 tick with ⟨h1, h2⟩ | ⟨h1, h2⟩
      · exact run_quiet tick n (by rw [h2, List.length_tail]; omega) ht
      · rw [run_busy _ _ h1] at ht; exact absurd ht h1
    · rw [if_neg hc] at ht ⊢
      by_cases hj : t.js = []
      · exact hj
      · exact absurd ⟨ht, hj⟩ hc
theorem go_idle {t : Tn} (tick : Int) : (t.go tick).m.todo = [] → (t.go tick).js = [] := run_quiet tick _ (Nat.le_refl _)
theorem put_inv {d : Nat} {t : Tn} (h : TInv d t) {q : Rq} (hq : JOk q) (hd : ¬ d ≤ t.js.length) : TInv d { t with js := t.js ++ [(t.ids + 1, q)], ids := t.ids + 1 } := by
  refine ⟨h.mi, h.cok, fun j hj => ?_, by simp only [List.length_append, List.length_singleton]; omega, fun _ => by simp, ?_⟩
  · rcases List.mem_append.1 hj with hj | hj
    · exact h.jok j hj
    · simp only [List.mem_singleton] at hj
      subst hj
      exact hq
  · have := h.ids
    simp only [List.length_append, List.length_singleton]; omega
theorem submit_inv {d : Nat} {t : Tn} (h : TInv d t) {q : Rq} (hq : rcheck q t.pages = 0 → JOk q) (tick : Int) : TInv d (t.submit d q tick).1 := by
  unfold Tn.submit
  split
  · exact h
  · rename_i hc
    split
    · exact h
    · rename_i hd
      exact run_inv tick _ (put_inv h (hq (by simpa using hc)) hd)
theorem end_invE {m : Mc} {p : Pt} (h : MInv m p) (hne : m.todo ≠ []) (e : Int) {bs : List Int} (hb : e = 0 → u8ok bs ∧ bs.length = 16) : MInv (mEnd m p e bs).1 (mEnd m p e bs).2.1 := by
  rcases Classical.em (e = 0) with h0 | h0
  · exact end_inv h hne e (hb h0).1 (hb h0).2
  · unfold mEnd
    rw [if_pos h0]
    exact idle_inv h.inv
theorem over_inv {d : Nat} {t : Tn} (h : TInv d t) (hb : t.m.todo ≠ []) (e : Int) {bs : List Int} (hu : e = 0 → u8ok bs ∧ bs.length = 16) (tick : Int) : TInv d (t.over e bs tick) := by
  have hd := end_done t.m t.p e bs
  exact run_inv tick _ (tell_inv h (h.bz hb) (end_invE h.mi hb e hu) hd.1 hd.2.1 tick)
theorem new_inv (d n : Nat) (h1 : 1 ≤ n) (h64 : n ≤ 64) (pages : Int) : TInv d (Tn.new n pages) := ⟨idle_inv (Pt.new_inv h1 h64), c6none_ok, fun _ h => (by cases h), Nat.zero_le _, fun h => absurd rfl h, by simp [Tn.new]⟩
theorem taken_inv {d : Nat} {t : Tn} (h : TInv d t) : TInv d t.taken := ⟨h.mi, h.cok, h.jok, h.len, h.bz, by have := h.ids; simp only [Tn.taken, List.length_nil]; omega⟩
theorem crash_inv {d : Nat} {t : Tn} (h : TInv d t) : TInv d t.crash := by
  have h1 := h.mi.inv.ok
  refine ⟨idle_inv (Pt.new_inv h1.2.1 h1.2.2), c6none_ok, fun _ h => (by cases h), Nat.zero_le _, fun h => absurd rfl h, ?_⟩
  have := h.ids
  simp only [Tn.crash, List.length_nil]; omega
end Go.Proofs.YtfajcpnbhnddbaaGreat
namespace Go.Proofs.YtfajcpnbhnddbaaGreat
open Go Go.Sl Go.IntWalk
set_option maxHeartbeats 8000000
set_option maxRecDepth 20000
set_option linter.unusedVariables false
structure Jb where
  id : Int
  op : Int
  page : Int
  off : Int
  len : Int
  a : Option Addr
  cap : Nat
  xs : List Int
def Jb.l (j : Jb) : List Value := [.int .i64 j.id, .int .i64 j.op, .int .i64 j.page, .int .i64 j.off, .int .i64 j.len, .slice j.a j.xs.length j.cap]
def QAt (m : Nat) (js : List Jb) (b : Nat) (H : HL) : Prop := ∃ (lx : List Value) (at_ br : Nat), lx.length = m * 6 ∧ 1 ≤ m ∧ m ≤ 8 ∧ js.length ≤ m ∧ at_ < m ∧ (∀ i (h : i < js.length), seg? lx (0 + (at_ + i) % m * 6) 6 = some js[i].l) ∧
  H = [(b, Obj.cells (List.toArray [.slice (some ⟨br, 0, none⟩) m m, .int .i64 (at_ : Int), .int .i64 (js.length : Int)]) 123 (0, 0))] ++ [(br, .cells lx.toArray 80 (0, 0))]
theorem QFull_spec (m : Nat) (js : List Jb) (b : Nat) (H : HL) (h : QAt m js b H) : Ctr Tryz.prog 53 [.pointer (some ⟨b, 0, none⟩)] [] H (fun v L' => v = .bool (decide ((js.length : Int) = (m : Int))) ∧ L' = []) := by
  obtain ⟨lx, at_, br, h1, h2, h3, h4, h5, h6, rfl⟩ := h
  refine Ctr.enter (n := 13) [.tmp 2] [(0, _)] Tryz.func53 rfl rfl rfl (lb rfl) Tryz.call53 ⟨rfl, trivial⟩ ?_
  intro cx fin fin0
  refine aG ?_
  refine W.draw follows (by decide +kernel) (zG ?_)
  repeat (first | refine zL ?_ | (first | refine zGo ?_ | refine zSk ?_ | refine zUn ?_ | fail) | (first | refine zPT ?_ | refine zPF ?_ | fail) | refine zV (OpVal.add rfl rfl (i64_in _ (by omega))) ?_ | refine zV (OpVal.sub rfl rfl (i64_in _ (by omega))) ?_ | refine zV (OpVal.neBool tab_ok rfl rfl rfl) ?_ | refine zV (OpVal.eqBool tab_ok rfl rfl rfl) ?_ | refine zV (OpVal.eqNil tab_ok rfl rfl rfl) ?_ | refine zV (OpVal.neNil tab_ok rfl rfl rfl) ?_ | fail)
  refine WZ.nil (aG ?_)
  repeat (first | refine gx ?_ | refine gN fun _ => ?_ | refine gB fun _ => ?_ | fail)
  refine W.ret (fin _ _ (FinOk.first 0 (.tmp rfl .nil) rfl ?_))
  exact ⟨rfl, rfl⟩
theorem QLen_spec (m : Nat) (js : List Jb) (b : Nat) (H : HL) (h : QAt m js b H) : Ctr Tryz.prog 35 [.pointer (some ⟨b, 0, none⟩)] [] H (fun v L' => v = .int .i64 (js.length : Int) ∧ L' = []) := by
  obtain ⟨lx, at_, br, h1, h2, h3, h4, h5, h6, rfl⟩ := h
  refine Ctr.enter (n := 7) [.tmp 2] [(0, _)] Tryz.func35 rfl rfl rfl (lb rfl) Tryz.call35 ⟨rfl, trivial⟩ ?_
  intro cx fin fin0
  refine aG ?_
  repeat (first | refine gx ?_ | refine gN fun _ => ?_ | refine gB fun _ => ?_ | fail)
  refine W.ret (fin _ _ (FinOk.first 0 (.tmp rfl .nil) rfl ?_))
  exact ⟨rfl, rfl⟩
theorem QNew_spec (m : Nat) (h1 : 1 ≤ m) (h8 : m ≤ 8) : Ctr Tryz.prog 48 [.int .i64 (m : Int)] [] [] (fun v L' => ∃ b H, v = .tuple #[.pointer (some ⟨b, 0, none⟩), .int .i64 0] ∧ L' = [H] ∧ QAt m [] b H) := by
  have k1 : ¬ (m : Int) < 1 := by omega
  have k2 : ¬ (m : Int) > 1000 := by omega
  refine Ctr.enter (n := 14) [.tmp 2, .tmp 3] [(0, _)] Tryz.func48 rfl rfl rfl (lb rfl) Tryz.call48 ⟨rfl, trivial⟩ ?_
  intro cx fin fin0
  refine aG ?_
  repeat (first | refine gh (gc2 k1 k2) ?_ | refine gN fun _ => ?_ | refine gB fun _ => ?_ | fail)
  refine aW (NewOf.mks (bytes := 64) (len := m) (cap := m) tab_ok rfl rfl rfl rfl rfl rfl rfl rfl rfl (Nat.le_refl _) (by omega) (by omega)) ?_
  intro br
  refine aG ?_
  refine aBu (ps := [_]) ?_
  repeat (first | refine gx ?_ | refine gN fun _ => ?_ | refine gB fun _ => ?_ | fail)
  rename_i b
  refine W.groupV [0, 0] rfl ?_
  refine W.ret (fin _ _ (FinOk.first 1 (.tmp rfl (.tmp rfl .nil)) rfl ?_))
  exact ⟨b, _, rfl, rfl, _, 0, br, by rw [repL_len]; rfl, h1, h8, Nat.zero_le _, h1, (by intro i hi; simp at hi), rfl⟩
def Jb.zero : Jb := ⟨0, 0, 0, 0, 0, none, 0, []⟩
theorem QFirst_spec (m : Nat) (js : List Jb) (b : Nat) (H : HL) (h : QAt m js b H) : Ctr Tryz.prog 55 [.pointer (some ⟨b, 0, none⟩)] [] H
    (fun v L' => v = .tuple #[.agg (js.headD Jb.zero).l.toArray, .bool (decide (0 < js.length))] ∧ L' = []) := by
  obtain ⟨lx, at_, br, h1, h2, h3, h4, h5, h6, rfl⟩ := h
  cases js with
  | nil =>
    have hz : (([] : List Jb).length : Int) = 0 := rfl
    refine Ctr.enter (n := 21) [.cell 2 80, .tmp 3] [(0, _)] Tryz.func55 rfl rfl rfl (lb rfl) Tryz.call55 ⟨rfl, trivial⟩ ?_
    intro cx fin fin0
    refine aG ?_
    repeat (first | refine gh hz ?_ | refine gN fun _ => ?_ | refine gB fun _ => ?_ | fail)
    refine W.ret (fin _ _ (FinOk.first 0 (aRc (.tmp rfl .nil)) rfl ?_))
    exact ⟨rfl, rfl⟩
  | cons j js =>
    have hz : ¬ ((j :: js).length : Int) = 0 := by simp; omega
    have hs := h6 0 (by simp)
    rw [Nat.add_zero, Nat.mod_eq_of_lt h5] at hs
    have hs2 : seg? lx (0 + at_ * 6) 6 = some [.int .i64 j.id, .int .i64 j.op, .int .i64 j.page, .int .i64 j.off, .int .i64 j.len, .slice j.a j.xs.length j.cap] := hs
    refine Ctr.enter (n := 21) [.cell 2 80, .tmp 3] [(0, _)] Tryz.func55 rfl rfl rfl (lb rfl) Tryz.call55 ⟨rfl, trivial⟩ ?_
    intro cx fin fin0
    refine aG ?_
    repeat (first | refine gh hz ?_ | refine gN fun _ => ?_ | refine gB fun _ => ?_ | fail)
    refine W.drawH tab_ok 11 [.b false, .b false, .b false, .b false, .b false, .b false, .b false, .b false, .b false, .b false, .b true] [1] follows (by decide +kernel) (by decide +kernel) rfl (by decide) rfl ?_
    intro _
    refine dG ?_
    repeat (first | refine dL ?_ | refine dS ?_ | (first | refine dGo ?_ | refine dSk ?_ | refine dUn ?_ | fail) | (first | refine dPT ?_ | refine dPF ?_ | fail) | refine dV (OpVal.add rfl rfl (i64_in _ (by omega))) ?_ | refine dV (OpVal.sub rfl rfl (i64_in _ (by omega))) ?_ | refine dV (OpVal.neBool tab_ok rfl rfl rfl) ?_ | refine dV (OpVal.eqBool tab_ok rfl rfl rfl) ?_ | refine dV (OpVal.eqNil tab_ok rfl rfl rfl) ?_ | refine dV (OpVal.neNil tab_ok rfl rfl rfl) ?_ | fail)
    refine dV (OpVal.ixSl (j := at_) tab_ok rfl rfl rfl rfl rfl h5) ?_
    refine dV (OpVal.loadN ty_80.1 ty_80.2 rfl (show At _ _ br (.cells lx.toArray 80 (0, 0)) from .inr (by simp)) hs2) ?_
    repeat (first | refine dL ?_ | refine dS ?_ | (first | refine dGo ?_ | refine dSk ?_ | refine dUn ?_ | fail) | (first | refine dPT ?_ | refine dPF ?_ | fail) | refine dV (OpVal.add rfl rfl (i64_in _ (by omega))) ?_ | refine dV (OpVal.sub rfl rfl (i64_in _ (by omega))) ?_ | refine dV (OpVal.neBool tab_ok rfl rfl rfl) ?_ | refine dV (OpVal.eqBool tab_ok rfl rfl rfl) ?_ | refine dV (OpVal.eqNil tab_ok rfl rfl rfl) ?_ | refine dV (OpVal.neNil tab_ok rfl rfl rfl) ?_ | fail)
    refine WD.nil (W.dropNil (aG ?_))
    repeat (first | refine gx ?_ | refine gN fun _ => ?_ | refine gB fun _ => ?_ | fail)
    refine W.ret (fin _ _ (FinOk.first 0 (aRc (.tmp rfl .nil)) rfl ?_))
    exact ⟨by simp [pack, List.headD, Jb.l], rfl⟩
end Go.Proofs.YtfajcpnbhnddbaaGreat
namespace Go.Proofs.YtfajcpnbhnddbaaGreat
open Go Go.Sl Go.IntWalk
set_option maxHeartbeats 8000000
set_option maxRecDepth 20000
set_option linter.unusedVariables false
theorem spl2 {P : Program} {n : Nat} {R : HL} {cx : Cx} {K : List Kont} {ρ : Env} {L M : List HL} {A B : HL} (h : L = (A ++ B) :: M) (hk : W P n R cx K ρ (A :: B :: M)) : W P n R cx K ρ L := by
  subst h
  exact W.regroup (by simp) hk
theorem tmodN (a b : Nat) : (a : Int).tmod (b : Int) = ((a % b : Nat) : Int) := (Int.ofNat_tmod a b).symm
theorem mod2 {x m : Nat} (h : x < 2 * m) : x % m = if x < m then x else x - m := by
  split
  · exact Nat.mod_eq_of_lt ‹_›
  · rw [Nat.mod_eq_sub_mod (by omega), Nat.mod_eq_of_lt (by omega)]
theorem seg_splice_ne {l l' vs : List Value} {o p k : Nat} (h : splice? l o vs = some l') (hd : p + k ≤ o ∨ o + vs.length ≤ p) (hp : p + k ≤ l.length) : seg? l' p k = seg? l p k := by
  obtain ⟨h1, h2⟩ := splice?_eq _ _ _ h
  have hl : l'.length = l.length := by rw [h2]; simp; omega
  rw [seg?_of _ _ _ (by omega), seg?_of _ _ _ hp]
  congr 1
  apply List.ext_getElem?
  intro i
  rw [h2]
  simp only [List.getElem?_take, List.getElem?_drop, List.getElem?_append, List.length_append, List.length_take]
  split
  · rcases hd with hd | hd
    · rw [if_pos (by omega), if_pos (by omega), if_pos (by omega)]
    · rw [if_neg (by omega)]
      congr 1
      omega
  · rfl
theorem seg_splice_eq {l l' vs : List Value} {o : Nat} (h : splice? l o vs = some l') : seg? l' o vs.length = some vs := by
  obtain ⟨h1, h2⟩ := splice?_eq _ _ _ h
  have ht : (l.take o).length = o := by rw [List.length_take]; omega
  rw [seg?_of _ _ _ (by rw [h2]; simp; omega), h2, List.append_assoc, List.drop_append, ht, Nat.sub_self, List.drop_zero, List.drop_of_length_le (by omega)]
  simp
theorem splice_len {l l' vs : List Value} {o : Nat} (h : splice? l o vs = some l') : l'.length = l.length := by
  obtain ⟨h1, h2⟩ := splice?_eq _ _ _ h
  rw [h2]; simp; omega
theorem QPut_spec (m : Nat) (js : List Jb) (b : Nat) (H : HL) (h : QAt m js b H) (j : Jb) : Ctr Tryz.prog 28 [.pointer (some ⟨b, 0, none⟩), .agg j.l.toArray] [H] []
    (fun v L' => ∃ H', L' = [H'] ∧ ((js.length = m ∧ v = .int .i64 8 ∧ QAt m js b H') ∨ (js.length < m ∧ v = .int .i64 0 ∧ QAt m (js ++ [j]) b H'))) := by
  have hF := QFull_spec m js b H h
  have h0 := h
  obtain ⟨lx, at_, br, h1, h2, h3, h4, h5, h6, rfl⟩ := h
  by_cases hf : (js.length : Int) = (m : Int)
  · refine Ctr.enter (n := 35) [.tmp 4] [(0, _), (1, _)] Tryz.func28 rfl rfl rfl (lb rfl) Tryz.call28 ⟨rfl, rfl, trivial⟩ ?_
    intro cx fin fin0
    refine aG ?_
    repeat (first | refine gx ?_ | refine gN fun _ => ?_ | refine gB fun _ => ?_ | fail)
    refine aC (o := hF) (h := ?_) (hro := RoIn.own 1 rfl)
    rintro _ _ ⟨rfl, rfl⟩
    refine aG ?_
    repeat (first | refine gh hf ?_ | refine gN fun _ => ?_ | refine gB fun _ => ?_ | fail)
    refine W.groupV [1] rfl ?_
    refine W.ret (fin _ _ (FinOk.first 1 (.tmp rfl .nil) rfl ?_))
    exact ⟨_, rfl, .inl ⟨by omega, rfl, h0⟩⟩
  · have hlt : js.length < m := by omega
    have hw : (at_ + js.length) % m < m := Nat.mod_lt _ (by omega)
    have hsp := splice?_of lx (0 + (at_ + js.length) % m * 6) j.l (by rw [h1]; show 0 + _ * 6 + 6 ≤ m * 6; omega)
    generalize lx.take (0 + (at_ + js.length) % m * 6) ++ j.l ++ lx.drop (0 + (at_ + js.length) % m * 6 + j.l.length) = lx' at hsp
    have hq : QAt m (js ++ [j]) b ([(b, Obj.cells (List.toArray [.slice (some ⟨br, 0, none⟩) m m, .int .i64 (at_ : Int), .int .i64 ((js.length : Int) + 1)]) 123 (0, 0))] ++ [(br, .cells lx'.toArray 80 (0, 0))]) := by
      refine ⟨lx', at_, br, by rw [splice_len hsp, h1], h2, h3, by simp; omega, h5, fun i hi => ?_, by simp⟩
      have hi2 : i < js.length + 1 := by simpa using hi
      by_cases he : i = js.length
      · subst he
        rw [List.getElem_append_right (Nat.le_refl _)]
        simp only [Nat.sub_self, List.getElem_singleton]
        exact seg_splice_eq hsp
      · rw [List.getElem_append_left (by omega)]
        rw [seg_splice_ne hsp ?_ ?_]
        · exact h6 i (by omega)
        · show _ ∨ 0 + _ * 6 + 6 ≤ _
          have e1 := mod2 (x := at_ + i) (m := m) (by omega)
          have e2 := mod2 (x := at_ + js.length) (m := m) (by omega)
          rw [e1, e2]
          split <;> split <;> omega
        · have e1 := mod2 (x := at_ + i) (m := m) (by omega)
          rw [h1, e1]
          split <;> omega
    refine Ctr.enter (n := 35) [.tmp 4] [(0, _), (1, _)] Tryz.func28 rfl rfl rfl (lb rfl) Tryz.call28 ⟨rfl, rfl, trivial⟩ ?_
    intro cx fin fin0
    refine aG ?_
    repeat (first | refine gx ?_ | refine gN fun _ => ?_ | refine gB fun _ => ?_ | fail)
    refine aC (o := hF) (h := ?_) (hro := RoIn.own 1 rfl)
    rintro _ _ ⟨rfl, rfl⟩
    refine aG ?_
    repeat (first | refine gh hf ?_ | refine gN fun _ => ?_ | refine gB fun _ => ?_ | fail)
    refine W.order [1, 0] rfl ?_
    refine spl2 rfl ?_
    refine aG ?_
    refine W.drawTail 20 follows (by decide +kernel) (zG ?_)
    repeat (first | refine zL ?_ | (first | refine zGo ?_ | refine zSk ?_ | refine zUn ?_ | fail) | (first | refine zPT ?_ | refine zPF ?_ | fail) | refine zV (OpVal.add rfl rfl (i64_in _ (by omega))) ?_ | refine zV (OpVal.sub rfl rfl (i64_in _ (by omega))) ?_ | refine zV (OpVal.neBool tab_ok rfl rfl rfl) ?_ | refine zV (OpVal.eqBool tab_ok rfl rfl rfl) ?_ | refine zV (OpVal.eqNil tab_ok rfl rfl rfl) ?_ | refine zV (OpVal.neNil tab_ok rfl rfl rfl) ?_ | fail)
    refine zV (OpVal.rem (r := (((at_ + js.length) % m : Nat) : Int)) rfl rfl (by omega) (by rw [← tmodN]; rfl)) ?_
    repeat (first | refine zL ?_ | (first | refine zGo ?_ | refine zSk ?_ | refine zUn ?_ | fail) | (first | refine zPT ?_ | refine zPF ?_ | fail) | refine zV (OpVal.add rfl rfl (i64_in _ (by omega))) ?_ | refine zV (OpVal.sub rfl rfl (i64_in _ (by omega))) ?_ | refine zV (OpVal.neBool tab_ok rfl rfl rfl) ?_ | refine zV (OpVal.eqBool tab_ok rfl rfl rfl) ?_ | refine zV (OpVal.eqNil tab_ok rfl rfl rfl) ?_ | refine zV (OpVal.neNil tab_ok rfl rfl rfl) ?_ | fail)
    refine WZ.nil (aG ?_)
    refine aV (OpVal.ixSl tab_ok rfl rfl rfl rfl rfl hw) ?_
    refine W.store tab_ok rfl (Upd.there Upd.here) rfl rfl rfl rfl rfl hsp (aG ?_)
    repeat (first | refine gx ?_ | refine gN fun _ => ?_ | refine gB fun _ => ?_ | fail)
    refine W.groupV [0, 0] rfl ?_
    refine W.ret (fin _ _ (FinOk.first 1 (.tmp rfl .nil) rfl ?_))
    exact ⟨_, rfl, .inr ⟨hlt, rfl, hq⟩⟩
theorem QTake_spec (m : Nat) (j : Jb) (js : List Jb) (b : Nat) (H : HL) (h : QAt m (j :: js) b H) : Ctr Tryz.prog 58 [.pointer (some ⟨b, 0, none⟩)] [H] []
    (fun v L' => ∃ H', v = .tuple #[.agg j.l.toArray, .bool true] ∧ L' = [H'] ∧ QAt m js b H') := by
  have hF := QFirst_spec m (j :: js) b H h
  have e1 : (j :: js).headD Jb.zero = j := rfl
  have e2 : decide (0 < (j :: js).length) = true := by simp
  rw [e1, e2] at hF
  obtain ⟨lx, at_, br, h1, h2, h3, h4, h5, h6, rfl⟩ := h
  have hl : (j :: js).length = js.length + 1 := rfl
  have hsp := splice?_of lx (0 + at_ * 6) Jb.zero.l (by rw [h1]; show 0 + _ * 6 + 6 ≤ m * 6; omega)
  have ez : lx.take (0 + at_ * 6) ++ repL 1 Jb.zero.l ++ lx.drop (0 + at_ * 6 + 1 * 6) = lx.take (0 + at_ * 6) ++ Jb.zero.l ++ lx.drop (0 + at_ * 6 + Jb.zero.l.length) := rfl
  generalize lx.take (0 + at_ * 6) ++ Jb.zero.l ++ lx.drop (0 + at_ * 6 + Jb.zero.l.length) = lx' at hsp ez
  have hq : QAt m js b ([(b, Obj.cells (List.toArray [.slice (some ⟨br, 0, none⟩) m m, .int .i64 (((at_ + 1) % m : Nat) : Int), .int .i64 (((j :: js).length : Int) - 1)]) 123 (0, 0))] ++ [(br, .cells lx'.toArray 80 (0, 0))]) := by
    rw [show (((j :: js).length : Int) - 1) = (js.length : Int) by simp]
    refine ⟨lx', (at_ + 1) % m, br, by rw [splice_len hsp, h1], h2, h3, by omega, Nat.mod_lt _ (by omega), fun i hi => ?_, rfl⟩
    have h7 := h6 (i + 1) (by simpa using hi)
    have e3 : ((at_ + 1) % m + i) % m = (at_ + (i + 1)) % m := by rw [Nat.mod_add_mod]; congr 1; omega
    rw [e3, seg_splice_ne hsp ?_ ?_]
    · exact h7
    · show _ ∨ 0 + _ * 6 + 6 ≤ _
      have e1 := mod2 (x := at_ + (i + 1)) (m := m) (by omega)
      rw [e1]
      split <;> omega
    · have e1 := mod2 (x := at_ + (i + 1)) (m := m) (by omega)
      rw [h1, e1]
      split <;> omega
  refine Ctr.enter (n := 49) [.cell 2 80, .tmp 3] [(0, _)] Tryz.func58 rfl rfl rfl (lb rfl) Tryz.call58 ⟨rfl, trivial⟩ ?_
  intro cx fin fin0
  refine aG ?_
  repeat (first | refine gx ?_ | refine gN fun _ => ?_ | refine gB fun _ => ?_ | fail)
  refine aC (o := hF) (h := ?_) (hro := RoIn.own 1 rfl)
  rintro _ _ ⟨rfl, rfl⟩
  refine aG ?_
  repeat (first | refine gx ?_ | refine gN fun _ => ?_ | refine gB fun _ => ?_ | fail)
  refine W.order [2, 0, 0] rfl ?_
  refine spl2 rfl ?_
  refine aG ?_
  refine W.drawTail 14 follows (by decide +kernel) (zG ?_)
  repeat (first | refine zL ?_ | (first | refine zGo ?_ | refine zSk ?_ | refine zUn ?_ | fail) | (first | refine zPT ?_ | refine zPF ?_ | fail) | refine zV (OpVal.add rfl rfl (i64_in _ (by omega))) ?_ | refine zV (OpVal.sub rfl rfl (i64_in _ (by omega))) ?_ | refine zV (OpVal.neBool tab_ok rfl rfl rfl) ?_ | refine zV (OpVal.eqBool tab_ok rfl rfl rfl) ?_ | refine zV (OpVal.eqNil tab_ok rfl rfl rfl) ?_ | refine zV (OpVal.neNil tab_ok rfl rfl rfl) ?_ | fail)
  refine zV (OpVal.pieceG (l := at_) (h := at_ + 1) (c := m) tab_ok rfl rfl rfl ⟨_, rfl⟩ ⟨_, rfl⟩ rfl (by omega) (by omega) (by omega)) ?_
  rw [if_neg (show ¬ m = at_ by omega), show at_ + 1 - at_ = 1 by omega]
  refine WZ.nil (aG ?_)
  refine aPu (clearSl (b := br) (m := 6) (ex := 80) (l := lx) (zs := Jb.zero.l) (z := .agg Jb.zero.l.toArray) tab_ok rfl rfl rfl rfl (by decide) rfl (by simp) rfl (by decide) (by rw [h1]; omega)) ?_
  rintro _ _ rfl
  refine aG ?_
  rw [ez]
  refine W.drawTail 12 follows (by decide +kernel) (zG ?_)
  repeat (first | refine zL ?_ | (first | refine zGo ?_ | refine zSk ?_ | refine zUn ?_ | fail) | (first | refine zPT ?_ | refine zPF ?_ | fail) | refine zV (OpVal.add rfl rfl (i64_in _ (by omega))) ?_ | refine zV (OpVal.sub rfl rfl (i64_in _ (by omega))) ?_ | refine zV (OpVal.neBool tab_ok rfl rfl rfl) ?_ | refine zV (OpVal.eqBool tab_ok rfl rfl rfl) ?_ | refine zV (OpVal.eqNil tab_ok rfl rfl rfl) ?_ | refine zV (OpVal.neNil tab_ok rfl rfl rfl) ?_ | fail)
  refine zV (OpVal.rem (r := (((at_ + 1) % m : Nat) : Int)) rfl rfl (by omega) (by rw [← tmodN]; rfl)) ?_
  refine WZ.nil (aG ?_)
  repeat (first | refine gx ?_ | refine gN fun _ => ?_ | refine gB fun _ => ?_ | fail)
  refine W.groupV [1, 0] rfl ?_
  refine W.ret (fin _ _ (FinOk.first 1 (aRc (.tmp rfl .nil)) rfl ?_))
  exact ⟨_, rfl, rfl, hq⟩
end Go.Proofs.YtfajcpnbhnddbaaGreat
namespace Go.Proofs.YtfajcpnbhnddbaaGreat
open Go Go.Sl Go.IntWalk
set_option maxHeartbeats 8000000
set_option maxRecDepth 20000
set_option linter.unusedVariables false
structure Ro where
  r : Rs
  a : Option Addr
  n : Nat
  c : Nat
def Ro.l (o : Ro) : List Value := [.int .i64 o.r.id, .int .i64 o.r.errno, .bool o.r.hit, .int .i64 o.r.tick, .slice o.a o.n o.c, .int .u64 o.r.c.h, .int .u64 o.r.c.m, .int .u64 o.r.c.e, .int .u64 o.r.c.r, .int .u64 o.r.c.w, .int .u64 o.r.c.f]
def Jb.j (j : Jb) : Int × Rq := (j.id, ⟨j.op, j.page, j.off, j.len, j.xs⟩)
def tCells (t : Tn) (bm bp bq : Nat) (ao : Option Addr) (lo co : Nat) : List Value := [.pointer (some ⟨bm, 0, none⟩), .pointer (some ⟨bp, 0, none⟩), .pointer (some ⟨bq, 0, none⟩), .int .i64 t.pages, .int .i64 t.ids, .int .u64 t.c.h, .int .u64 t.c.m, .int .u64 t.c.e, .int .u64 t.c.r, .int .u64 t.c.w, .int .u64 t.c.f, .slice ao lo co]
def TAt (d : Nat) (t : Tn) (b bp : Nat) (H : HL) : Prop := ∃ (bm bq : Nat) (ao : Option Addr) (co : Nat) (ls : List Jb) (los : List Ro) (Hm Hq Ho D : HL),
  H = [(b, Obj.cells (List.toArray [.pointer (some ⟨bm, 0, none⟩), .pointer (some ⟨bp, 0, none⟩), .pointer (some ⟨bq, 0, none⟩), .int .i64 t.pages, .int .i64 t.ids, .int .u64 t.c.h, .int .u64 t.c.m, .int .u64 t.c.e, .int .u64 t.c.r, .int .u64 t.c.w, .int .u64 t.c.f, .slice ao los.length co]) 55 (0, 0))] ++ (Hm ++ (Hq ++ (Ho ++ D))) ∧
  MAt t.m bm bp Hm ∧ QAt d ls bq Hq ∧ ls.map Jb.j = t.js ∧ Own 11 60 (los.flatMap Ro.l) ao los.length co Ho ∧ los.map Ro.r = t.out ∧
  (∀ j ∈ ls, ∃ r, RoSl 1 (u8s j.xs) j.a j.xs.length r ∧ ∀ q ∈ r, q ∈ D) ∧ (∀ o ∈ los, ∃ r, RoSl 1 (u8s o.r.data) o.a o.n r ∧ o.r.data.length = o.n ∧ ∀ q ∈ r, q ∈ D)
theorem spl5 {P : Program} {n : Nat} {R : HL} {cx : Cx} {K : List Kont} {ρ : Env} {L M : List HL} {A B C D E : HL} (h : L = (A ++ (B ++ (C ++ (D ++ E)))) :: M) (hk : W P n R cx K ρ (A :: B :: C :: D :: E :: M)) : W P n R cx K ρ L := by
  subst h
  exact W.regroup (by simp) hk
theorem sum2_at {a c : C6} (b : Nat) {e : TypeId} : RoSl 6 ([a, c].flatMap C6.l) (some ⟨b, 0, none⟩) [a, c].length [(b, .cells (List.toArray [.int .u64 a.h, .int .u64 a.m, .int .u64 a.e, .int .u64 a.r, .int .u64 a.w, .int .u64 a.f, .int .u64 c.h, .int .u64 c.m, .int .u64 c.e, .int .u64 c.r, .int .u64 c.w, .int .u64 c.f]) e (0, 0))] :=
  ⟨rfl, .inr ⟨b, 0, _, e, (0, 0), rfl, rfl, Nat.le_refl _, rfl⟩⟩
theorem Tell_spec (d : Nat) (t : Tn) (b bp : Nat) (H : HL) (ht : TAt d t b bp H) (x : Re) (hx : x.done = true → t.js ≠ []) (hc : t.c.Ok) (ha : x.add.Ok) (tick : Int) (a : Option Addr) (n c : Nat) (Hd : HL) (hd : RoSl 1 (u8s x.data) a n Hd) (hn : x.data.length = n) (hout : t.out.length ≤ 1000000) :
    Ctr Tryz.prog 33 [.pointer (some ⟨b, 0, none⟩), x.v a n c, .int .i64 tick] [H, Hd] [] (fun _ L' => ∃ H', L' = [H'] ∧ TAt d (t.tell x tick) b bp H') := by
  obtain ⟨bm, bq, ao, co, ls, los, Hm, Hq, Ho, D, rfl, hm, hq, hls, hown, hlo, hlj, hll⟩ := ht
  have hlen : los.length ≤ 1000000 := by rw [← hlo, List.length_map] at hout; exact hout
  have hS := fun bs => Sum_spec [t.c, x.add] (fun q hq => by simp only [List.mem_cons, List.not_mem_nil, or_false] at hq; rcases hq with rfl | rfl <;> assumption) (lb rfl) (some ⟨bs, 0, none⟩) 2 _ (sum2_at (e := 40) bs)
  have htl : t.tell x tick = t.tell x tick := rfl
  conv at htl => rhs; unfold Tn.tell
  generalize t.tell x tick = out at *
  obtain ⟨xd, xe, xh, xdat, ⟨k1, k2, k3, k4, k5, k6⟩⟩ := x
  obtain ⟨tm, tp, tjs, tpg, tids, ⟨c1, c2, c3, c4, c5, c6⟩, tout⟩ := t
  simp only at *
  generalize sumC [⟨c1, c2, c3, c4, c5, c6⟩, ⟨k1, k2, k3, k4, k5, k6⟩] = sm at *
  obtain ⟨s1, s2, s3, s4, s5, s6⟩ := sm
  simp only [Re.v]
  refine Ctr.enter (n := 57) [] [(0, _), (1, _), (2, _)] Tryz.func33 rfl rfl rfl (lb rfl) Tryz.call33 ⟨rfl, rfl, rfl, trivial⟩ ?_
  intro cx fin fin0
  refine aG ?_
  repeat (first | refine gx ?_ | refine gN fun _ => ?_ | refine gB fun _ => ?_ | fail)
  refine W.order [1, 0, 0] rfl ?_
  refine spl5 rfl ?_
  refine aG ?_
  refine W.drawH tab_ok 12 [.b false, .b false, .b false, .b false, .b true, .b false, .b false, .b true, .b true, .b false, .b false, .b true] [0] follows (by decide +kernel) (by decide +kernel) rfl (by decide) rfl ?_
  intro _
  refine dG ?_
  refine dLA ?_
  repeat (first | refine dL ?_ | refine dS ?_ | (first | refine dGo ?_ | refine dSk ?_ | refine dUn ?_ | fail) | (first | refine dPT ?_ | refine dPF ?_ | fail) | refine dV (OpVal.add rfl rfl (i64_in _ (by omega))) ?_ | refine dV (OpVal.sub rfl rfl (i64_in _ (by omega))) ?_ | refine dV (OpVal.neBool tab_ok rfl rfl rfl) ?_ | refine dV (OpVal.eqBool tab_ok rfl rfl rfl) ?_ | refine dV (OpVal.eqNil tab_ok rfl rfl rfl) ?_ | refine dV (OpVal.neNil tab_ok rfl rfl rfl) ?_ | fail)
  refine dSl (ps := [_, _]) ?_
  intro bs
  refine dG ?_
  refine dC (o := hS bs) (h := ?_) (hro := RoIn.own 0 rfl)
  rintro _ _ ⟨rfl, rfl⟩
  refine dG ?_
  repeat (first | refine dL ?_ | refine dS ?_ | (first | refine dGo ?_ | refine dSk ?_ | refine dUn ?_ | fail) | (first | refine dPT ?_ | refine dPF ?_ | fail) | refine dV (OpVal.add rfl rfl (i64_in _ (by omega))) ?_ | refine dV (OpVal.sub rfl rfl (i64_in _ (by omega))) ?_ | refine dV (OpVal.neBool tab_ok rfl rfl rfl) ?_ | refine dV (OpVal.eqBool tab_ok rfl rfl rfl) ?_ | refine dV (OpVal.eqNil tab_ok rfl rfl rfl) ?_ | refine dV (OpVal.neNil tab_ok rfl rfl rfl) ?_ | fail)
  refine WD.nil (W.dropNil (aG ?_))
  refine W.order [1, 1, 1, 1, 3, 1, 1, 0] rfl ?_
  cases xd with
  | false =>
    rw [if_neg (by simp)] at htl
    subst htl
    repeat (first | refine gx ?_ | refine gN fun _ => ?_ | refine gB fun _ => ?_ | fail)
    refine W.groupV [0, 0, 0, 0, 0, 0] rfl ?_
    refine W.ret (fin _ _ (FinOk.first 1 .nil rfl ?_))
    exact ⟨_, rfl, bm, bq, ao, co, ls, los, Hm, Hq, Ho, Hd ++ D, rfl, hm, hq, hls, hown, hlo, fun j hj => (hlj j hj).imp fun r h => ⟨h.1, fun q hq => List.mem_append_right _ (h.2 q hq)⟩, fun o ho => (hll o ho).imp fun r h => ⟨h.1, h.2.1, fun q hq => List.mem_append_right _ (h.2.2 q hq)⟩⟩
  | true =>
    rw [if_pos rfl] at htl
    cases ls with
    | nil => exact absurd hls.symm (hx rfl)
    | cons j ls =>
      have hT := QTake_spec d j ls bq Hq hq
      have hjl := hlj
      obtain ⟨jid, jop, jpg, joff, jlen, ja, jc, jxs⟩ := j
      have hjd : (tjs.headD noJob) = (jid, ⟨jop, jpg, joff, jlen, jxs⟩) := by rw [← hls]; rfl
      have htj : tjs.tail = ls.map Jb.j := by rw [← hls]; rfl
      rw [hjd, htj] at htl
      simp only at htl
      simp only [Jb.l] at hT
      have hfin : ∀ (sc : C6) (a' : Option Addr) (c' : Nat) (Ho' Hq2 : HL), QAt d ls bq Hq2 → Own 11 60 (los.flatMap Ro.l ++ (⟨⟨jid, xe, xh, tick, xdat, sc⟩, a, n, c⟩ : Ro).l) a' (los.length + 1) c' Ho' →
          TAt d ⟨tm, tp, ls.map Jb.j, tpg, tids, ⟨s1, s2, s3, s4, s5, s6⟩, tout ++ [⟨jid, xe, xh, tick, xdat, sc⟩]⟩ b bp ([(b, Obj.cells (List.toArray [.pointer (some ⟨bm, 0, none⟩), .pointer (some ⟨bp, 0, none⟩), .pointer (some ⟨bq, 0, none⟩), .int .i64 tpg, .int .i64 tids, .int .u64 s1, .int .u64 s2, .int .u64 s3, .int .u64 s4, .int .u64 s5, .int .u64 s6, .slice a' (los.length + 1) c']) 55 (0, 0))] ++ (Hm ++ (Hq2 ++ (Ho' ++ (Hd ++ D))))) := by
        intro sc a' c' Ho' Hq2 hq2 ho
        have el : (los ++ [(⟨⟨jid, xe, xh, tick, xdat, sc⟩, a, n, c⟩ : Ro)]).length = los.length + 1 := by simp
        refine ⟨bm, bq, a', c', ls, los ++ [⟨⟨jid, xe, xh, tick, xdat, sc⟩, a, n, c⟩], Hm, Hq2, Ho', Hd ++ D, by rw [el], hm, hq2, rfl, ?_, ?_, ?_, ?_⟩
        · rw [el, List.flatMap_append, List.flatMap_singleton]; exact ho
        · rw [List.map_append, hlo]; rfl
        · exact fun j hj => (hjl j (List.mem_cons_of_mem _ hj)).imp fun r h => ⟨h.1, fun q hq => List.mem_append_right _ (h.2 q hq)⟩
        · intro o ho
          rcases List.mem_append.1 ho with ho | ho
          · exact (hll o ho).imp fun r h => ⟨h.1, h.2.1, fun q hq => List.mem_append_right _ (h.2.2 q hq)⟩
          · rw [List.mem_singleton.1 ho]
            exact ⟨Hd, hd, hn, fun q hq => List.mem_append_left _ hq⟩
      rcases Classical.em (jop = 8) with h8 | h8
      case' inl => rw [if_pos h8] at htl
      case' inr => rw [if_neg h8] at htl
      all_goals
        subst htl
        repeat (first | refine gx ?_ | refine gN fun _ => ?_ | refine gB fun _ => ?_ | fail)
        refine aC (o := hT) (h := ?_)
        rintro _ _ ⟨Hq2, rfl, rfl, hq2⟩
        refine aG ?_
        repeat (first | refine gh h8 ?_ | refine gN fun _ => ?_ | refine gB fun _ => ?_ | fail)
        refine W.order [3, 3, 2, 2, 2, 2, 0] rfl ?_
        refine W.drawH tab_ok 8 [.b false, .b false, .b false, .b false, .b false, .b false, .b true, .b true] [3] follows (by decide +kernel) (by decide +kernel) rfl (by decide) rfl ?_
        intro _
        refine dG ?_
        repeat (first | refine dL ?_ | refine dS ?_ | (first | refine dGo ?_ | refine dSk ?_ | refine dUn ?_ | fail) | (first | refine dPT ?_ | refine dPF ?_ | fail) | refine dV (OpVal.add rfl rfl (i64_in _ (by omega))) ?_ | refine dV (OpVal.sub rfl rfl (i64_in _ (by omega))) ?_ | refine dV (OpVal.neBool tab_ok rfl rfl rfl) ?_ | refine dV (OpVal.eqBool tab_ok rfl rfl rfl) ?_ | refine dV (OpVal.eqNil tab_ok rfl rfl rfl) ?_ | refine dV (OpVal.neNil tab_ok rfl rfl rfl) ?_ | fail)
        refine dSl (ps := [_]) ?_
        intro bt
        refine dG ?_
        refine dAp (hown) ?_
        rintro _ _ ⟨_, _, _, rfl, rfl, ho⟩
        refine dG ?_
        repeat (first | refine dL ?_ | refine dS ?_ | (first | refine dGo ?_ | refine dSk ?_ | refine dUn ?_ | fail) | (first | refine dPT ?_ | refine dPF ?_ | fail) | refine dV (OpVal.add rfl rfl (i64_in _ (by omega))) ?_ | refine dV (OpVal.sub rfl rfl (i64_in _ (by omega))) ?_ | refine dV (OpVal.neBool tab_ok rfl rfl rfl) ?_ | refine dV (OpVal.eqBool tab_ok rfl rfl rfl) ?_ | refine dV (OpVal.eqNil tab_ok rfl rfl rfl) ?_ | refine dV (OpVal.neNil tab_ok rfl rfl rfl) ?_ | fail)
        refine WD.nil (W.dropNil (aG ?_))
        repeat (first | refine gx ?_ | refine gN fun _ => ?_ | refine gB fun _ => ?_ | fail)
        refine W.groupV [2, 2, 2, 0, 1, 1] rfl ?_
        refine fin0 _ _ (FinOk.first 1 .nil rfl ?_)
        exact ⟨_, rfl, hfin _ _ _ _ _ hq2 ho⟩
end Go.Proofs.YtfajcpnbhnddbaaGreat
namespace Go.Proofs.YtfajcpnbhnddbaaGreat
open Go Go.Sl Go.IntWalk
set_option maxHeartbeats 8000000
set_option maxRecDepth 20000
set_option linter.unusedVariables false
theorem _root_.Go.Sl.Ctr.regroup {P : Program} {f : FuncId} {args : List Value} {pre pre' : List HL} {ro : HL} {post : Value → List HL → Prop} (h : Ctr P f args pre ro post) (e : pre.flatten = pre'.flatten) : Ctr P f args pre' ro post :=
  ⟨h.callable, by rw [← e]; exact h.go⟩
def tM (t : Tn) : Nat := t.js.length + (if t.m.todo = [] then 1 else 0)
theorem tM_begun {t : Tn} (ht : t.m.todo = []) (hj : t.js ≠ []) (tick : Int) : tM (t.begun tick) < tM t := by
  have h0 : 0 < t.js.length := List.length_pos_iff.2 hj
  unfold tM
  rw [if_pos ht]
  rcases begun_step ht hj tick with ⟨h1, h2⟩ | ⟨h1, h2⟩
  · rw [if_pos h1, h2, List.length_tail]; omega
  · rw [if_neg h1, h2]; omega
theorem tell_ids (t : Tn) (x : Re) (tick : Int) : (t.tell x tick).ids = t.ids := by unfold Tn.tell; split <;> rfl
theorem begun_ids (t : Tn) (tick : Int) : (t.begun tick).ids = t.ids := tell_ids _ _ _
theorem run_ids (tick : Int) : ∀ (n : Nat) (t : Tn), (t.run tick n).ids = t.ids
  | 0, t => rfl
  | n + 1, t => by
    unfold Tn.run
    split
    · rw [run_ids tick n, begun_ids]
    · rfl
theorem Run_spec (d : Nat) (t : Tn) (hi : TInv d t) (hid : t.ids ≤ 1000000) (b bp : Nat) (H : HL) (ht : TAt d t b bp H) (Hp : HL) (hp : PtAt t.p bp Hp) (tick : Int) :
    Ctr Tryz.prog 30 [.pointer (some ⟨b, 0, none⟩), .int .i64 tick] [H, Hp] [] (fun _ L' => ∃ H' Hp', L' = [H', Hp'] ∧ TAt d (t.go tick) b bp H' ∧ PtAt (t.go tick).p bp Hp') := by
  generalize hres : t.go tick = res
  refine Ctr.enter (n := 32) [] [(0, _), (1, _)] Tryz.func30 rfl rfl rfl (lb rfl) Tryz.call30 ⟨rfl, rfl, trivial⟩ ?_
  intro cx fin fin0
  refine aG ?_
  refine aLp (fun k ρ1 L1 => ∃ (t' : Tn) (H' Hp' : HL), TInv d t' ∧ t'.ids ≤ 1000000 ∧ res = t'.go tick ∧ TAt d t' b bp H' ∧ PtAt t'.p bp Hp' ∧ k = tM t' ∧ ρ1 = [(0, .pointer (some ⟨b, 0, none⟩)), (1, .int .i64 tick)] ∧ L1 = [H', Hp']) (o := ⟨t, H, Hp, hi, hid, hres.symm, ht, hp, rfl, rfl, rfl⟩) (h := ?_)
  clear ht hp hi hid hres t H Hp
  rintro k ρ1 L1 ⟨t, H, Hp, hi, hid, rfl, ht, hp, rfl, rfl, rfl⟩
  have hta := ht
  obtain ⟨bm, bq, ao, co, ls, los, Hm, Hq, Ho, D, rfl, hm, hq, hls, hown, hlo, hlj, hll⟩ := ht
  have hB := Busy_spec t.m bm bp Hm hm
  have hF := QFirst_spec d ls bq Hq hq
  refine spl5 rfl ?_
  refine aG ?_
  repeat (first | refine gx ?_ | refine gN fun _ => ?_ | refine gB fun _ => ?_ | fail)
  refine aC (o := hB) (h := ?_) (hro := RoIn.own 1 rfl)
  rintro _ _ ⟨rfl, rfl⟩
  refine aG ?_
  repeat (first | refine gx ?_ | refine gN fun _ => ?_ | refine gB fun _ => ?_ | fail)
  rcases Classical.em (t.m.todo = []) with h0 | h0
  case' inr =>
    have hz : 0 < ((t.m.todo.length : Nat) : Int) := by have := List.length_pos_iff.2 h0; omega
    repeat (first | refine gh hz ?_ | refine gN fun _ => ?_ | refine gB fun _ => ?_ | fail)
    refine W.groupV [0, 0, 0, 0, 0] rfl ?_
    refine fin0 _ _ (FinOk.first 2 .nil rfl ?_)
    rw [go_quiet (.inl h0)]
    exact ⟨_, _, rfl, hta, hp⟩
  have hz : ¬ 0 < ((t.m.todo.length : Nat) : Int) := by rw [h0]; decide
  repeat (first | refine gh hz ?_ | refine gN fun _ => ?_ | refine gB fun _ => ?_ | fail)
  refine aC (o := hF) (h := ?_) (hro := RoIn.own 2 rfl)
  rintro _ _ ⟨rfl, rfl⟩
  refine aG ?_
  cases ls with
  | nil =>
    repeat (first | refine gx ?_ | refine gN fun _ => ?_ | refine gB fun _ => ?_ | fail)
    refine W.groupV [1, 1, 1, 1, 1] rfl ?_
    refine W.order [0, 1] rfl ?_
    refine W.ret (fin _ _ (FinOk.first 2 .nil rfl ?_))
    rw [go_quiet (.inr hls.symm)]
    exact ⟨_, _, rfl, hta, hp⟩
  | cons j ls =>
    have hne : t.js ≠ [] := by rw [← hls]; simp
    have hhd : t.js.headD noJob = j.j := by rw [← hls]; rfl
    have hJ := hi.jok _ (head_mem hne)
    rw [hhd] at hJ
    obtain ⟨rj, hrj, hsub⟩ := hlj j (by simp)
    have hbi := begun_inv hi h0 hne tick
    have hbm := tM_begun h0 hne tick
    have hbd := begun_ids t tick
    rw [go_begun h0 hne tick]
    have hd := begin_done (p := t.p) h0 j.j.2
    have hbg : t.begun tick = ({ t with m := (mBegin t.m t.p j.j.2).1, p := (mBegin t.m t.p j.j.2).2.1 } : Tn).tell (mBegin t.m t.p j.j.2).2.2 tick := by unfold Tn.begun; rw [hhd]
    have hBg := Begin_spec t.m bm bp Hm hm t.p hi.mi.inv Hp hp j.j.2 hJ.ok.op.1 hJ.ok.op.2 hJ.ok.off j.a j.cap rj hrj
    have hout : t.out.length ≤ 1000000 := by have := hi.ids; omega
    have hT : ∀ (an : Option Addr) (nn cn : Nat) (H' Hd : HL), MAt (mBegin t.m t.p j.j.2).1 bm bp H' → RoSl 1 (u8s (mBegin t.m t.p j.j.2).2.2.data) an nn Hd → (mBegin t.m t.p j.j.2).2.2.data.length = nn → Ctr Tryz.prog 33 [.pointer (some ⟨b, 0, none⟩), (mBegin t.m t.p j.j.2).2.2.v an nn cn, .int .i64 tick]
        [[(b, Obj.cells (List.toArray [.pointer (some ⟨bm, 0, none⟩), .pointer (some ⟨bp, 0, none⟩), .pointer (some ⟨bq, 0, none⟩), .int .i64 t.pages, .int .i64 t.ids, .int .u64 t.c.h, .int .u64 t.c.m, .int .u64 t.c.e, .int .u64 t.c.r, .int .u64 t.c.w, .int .u64 t.c.f, .slice ao los.length co]) 55 (0, 0))], H', Hq, Ho, D, Hd] [] (fun _ L' => ∃ H', L' = [H'] ∧ TAt d (t.begun tick) b bp H') := fun an nn cn H' Hd g1 g3 g4 => by
      rw [hbg]
      exact (Tell_spec d ({ t with m := (mBegin t.m t.p j.j.2).1, p := (mBegin t.m t.p j.j.2).2.1 } : Tn) b bp _ ⟨bm, bq, ao, co, j :: ls, los, H', Hq, Ho, D, rfl, g1, hq, hls, hown, hlo, hlj, hll⟩ (mBegin t.m t.p j.j.2).2.2 (fun _ => hne) hi.cok hd.1 tick an nn cn Hd g3 g4 hout).regroup (by simp)
    have hbp : ∀ Hp', PtAt (mBegin t.m t.p j.j.2).2.1 bp Hp' → PtAt (t.begun tick).p bp Hp' := fun Hp' h => by
      rw [hbg]; unfold Tn.tell; split <;> exact h
    generalize t.begun tick = t2 at *
    generalize mBegin t.m t.p j.j.2 = mb at *
    repeat (first | refine gx ?_ | refine gN fun _ => ?_ | refine gB fun _ => ?_ | fail)
    refine W.order [1, 1, 1, 1, 1, 1, 0] rfl ?_
    refine W.drawH tab_ok 10 [.b false, .b false, .b false, .b false, .b true, .b false, .b false, .b true, .b false, .b true] [0,1,2,3,4,5] follows (by decide +kernel) (by decide +kernel) rfl (by decide) rfl ?_
    intro _
    refine dG ?_
    refine dLA ?_
    repeat (first | refine dL ?_ | refine dS ?_ | (first | refine dGo ?_ | refine dSk ?_ | refine dUn ?_ | fail) | (first | refine dPT ?_ | refine dPF ?_ | fail) | refine dV (OpVal.add rfl rfl (i64_in _ (by omega))) ?_ | refine dV (OpVal.sub rfl rfl (i64_in _ (by omega))) ?_ | refine dV (OpVal.neBool tab_ok rfl rfl rfl) ?_ | refine dV (OpVal.eqBool tab_ok rfl rfl rfl) ?_ | refine dV (OpVal.eqNil tab_ok rfl rfl rfl) ?_ | refine dV (OpVal.neNil tab_ok rfl rfl rfl) ?_ | fail)
    refine dC (o := hBg) (h := ?_) (hro := (fun q hq => .inl (by simp [hsub q hq])))
    rintro _ _ ⟨an, nn, cn, H', Hp', Hd, rfl, rfl, g1, g2, g3, g4⟩
    refine dG ?_
    repeat (first | refine dL ?_ | refine dS ?_ | (first | refine dGo ?_ | refine dSk ?_ | refine dUn ?_ | fail) | (first | refine dPT ?_ | refine dPF ?_ | fail) | refine dV (OpVal.add rfl rfl (i64_in _ (by omega))) ?_ | refine dV (OpVal.sub rfl rfl (i64_in _ (by omega))) ?_ | refine dV (OpVal.neBool tab_ok rfl rfl rfl) ?_ | refine dV (OpVal.eqBool tab_ok rfl rfl rfl) ?_ | refine dV (OpVal.eqNil tab_ok rfl rfl rfl) ?_ | refine dV (OpVal.neNil tab_ok rfl rfl rfl) ?_ | fail)
    refine dC (o := hT an nn cn H' Hd g1 g3 g4) (h := ?_)
    rintro _ _ ⟨H2, rfl, ht2⟩
    refine dG ?_
    refine WD.nil (W.dropNil (aG ?_))
    refine aR (o := ⟨tM t2, hbm, t2, H2, Hp', hbi, by omega, rfl, ht2, hbp _ g2, rfl, rfl, rfl⟩)
end Go.Proofs.YtfajcpnbhnddbaaGreat
namespace Go.Proofs.YtfajcpnbhnddbaaGreat
open Go Go.Sl Go.IntWalk
set_option maxHeartbeats 8000000
set_option maxRecDepth 20000
set_option linter.unusedVariables false
theorem Submit_spec (d : Nat) (t : Tn) (hi : TInv d t) (hid : t.ids < 1000000) (b bp : Nat) (H : HL) (ht : TAt d t b bp H) (Hp : HL) (hp : PtAt t.p bp Hp) (q : Rq) (hu : u8ok q.data) (hl : q.data.length ≤ 1000000) (hoi : i64s q.off) (hop : i64s q.op) (hq : rcheck q t.pages = 0 → JOk q) (aq : Option Addr) (cq : Nat) (rq : HL) (hrq : RoSl 1 (u8s q.data) aq q.data.length rq) (tick : Int) :
    Ctr Tryz.prog 8 [.pointer (some ⟨b, 0, none⟩), q.v aq cq, .int .i64 tick] [H, Hp] rq (fun v L' => ∃ H' Hp', v = .tuple #[.int .i64 (t.submit d q tick).2.1, .int .i64 (t.submit d q tick).2.2] ∧ L' = [H', Hp'] ∧ TAt d (t.submit d q tick).1 b bp H' ∧ PtAt (t.submit d q tick).1.p bp Hp') := by
  have hta := ht
  obtain ⟨bm, bq, ao, co, ls, los, Hm, Hq, Ho, D, rfl, hm, hqa, hls, hown, hlo, hlj, hll⟩ := ht
  have hC := Check_spec q t.pages hu hl aq cq rq hrq hoi hop
  have hCl := RClone_spec q hl aq cq rq hrq
  have hlen : ls.length = t.js.length := by rw [← hls, List.length_map]
  have hids := hi.ids
  have hput := fun h hd => put_inv hi (hq h) hd
  have hsub : t.submit d q tick = t.submit d q tick := rfl
  conv at hsub => rhs; unfold Tn.submit
  generalize t.submit d q tick = out at *
  obtain ⟨qo, qp, qf, ql, qd⟩ := q
  have hP := fun a' c' => QPut_spec d ls bq Hq hqa ⟨t.ids + 1, qo, qp, qf, ql, a', c', qd⟩
  simp only [Rq.v] at hC hCl ⊢
  generalize rcheck ⟨qo, qp, qf, ql, qd⟩ t.pages = rc at *
  refine Ctr.enter (n := 51) [.tmp 6, .tmp 7] [(0, _), (1, _), (2, _)] Tryz.func8 rfl rfl rfl (lb rfl) Tryz.call8 ⟨rfl, rfl, rfl, trivial⟩ ?_
  intro cx fin fin0
  refine aG ?_
  repeat (first | refine gx ?_ | refine gN fun _ => ?_ | refine gB fun _ => ?_ | fail)
  refine W.order [1, 1, 0] rfl ?_
  refine spl5 rfl ?_
  refine aG ?_
  refine W.draw follows (by decide +kernel) (zG ?_)
  repeat (first | refine zL ?_ | (first | refine zGo ?_ | refine zSk ?_ | refine zUn ?_ | fail) | (first | refine zPT ?_ | refine zPF ?_ | fail) | refine zV (OpVal.add rfl rfl (i64_in _ (by omega))) ?_ | refine zV (OpVal.sub rfl rfl (i64_in _ (by omega))) ?_ | refine zV (OpVal.neBool tab_ok rfl rfl rfl) ?_ | refine zV (OpVal.eqBool tab_ok rfl rfl rfl) ?_ | refine zV (OpVal.eqNil tab_ok rfl rfl rfl) ?_ | refine zV (OpVal.neNil tab_ok rfl rfl rfl) ?_ | fail)
  refine zC (o := hC) (h := ?_) (hro := RoIn.same)
  repeat (first | refine zL ?_ | (first | refine zGo ?_ | refine zSk ?_ | refine zUn ?_ | fail) | (first | refine zPT ?_ | refine zPF ?_ | fail) | refine zV (OpVal.add rfl rfl (i64_in _ (by omega))) ?_ | refine zV (OpVal.sub rfl rfl (i64_in _ (by omega))) ?_ | refine zV (OpVal.neBool tab_ok rfl rfl rfl) ?_ | refine zV (OpVal.eqBool tab_ok rfl rfl rfl) ?_ | refine zV (OpVal.eqNil tab_ok rfl rfl rfl) ?_ | refine zV (OpVal.neNil tab_ok rfl rfl rfl) ?_ | fail)
  refine WZ.nil (aG ?_)
  rcases Classical.em (rc = 0) with h0 | h0
  case' inr =>
    rw [if_pos h0] at hsub
    subst hsub
    repeat (first | refine gh h0 ?_ | refine gN fun _ => ?_ | refine gB fun _ => ?_ | fail)
    refine W.groupV [0, 0, 0, 0, 0] rfl ?_
    refine W.order [0, 0] rfl ?_
    refine W.ret (fin _ _ (FinOk.first 2 (.tmp rfl (.tmp rfl .nil)) rfl ?_))
    exact ⟨_, _, rfl, rfl, hta, hp⟩
  rw [if_neg (fun h => h h0)] at hsub
  repeat (first | refine gh h0 ?_ | refine gN fun _ => ?_ | refine gB fun _ => ?_ | fail)
  refine W.drawH tab_ok 14 [.b false, .b false, .b false, .b false, .b false, .b false, .b false, .b false, .b false, .b false, .b true, .b false, .b true, .b false] [2] follows (by decide +kernel) (by decide +kernel) rfl (by decide) rfl ?_
  intro _
  refine dG ?_
  repeat (first | refine dL ?_ | refine dS ?_ | (first | refine dGo ?_ | refine dSk ?_ | refine dUn ?_ | fail) | (first | refine dPT ?_ | refine dPF ?_ | fail) | refine dV (OpVal.add rfl rfl (i64_in _ (by omega))) ?_ | refine dV (OpVal.sub rfl rfl (i64_in _ (by omega))) ?_ | refine dV (OpVal.neBool tab_ok rfl rfl rfl) ?_ | refine dV (OpVal.eqBool tab_ok rfl rfl rfl) ?_ | refine dV (OpVal.eqNil tab_ok rfl rfl rfl) ?_ | refine dV (OpVal.neNil tab_ok rfl rfl rfl) ?_ | fail)
  refine dC (o := hCl) (h := ?_) (hro := RoIn.all (fun q hq => by simp [hq]))
  rintro _ _ ⟨a2, c2, H2, rfl, rfl, hr2⟩
  refine dG ?_
  repeat (first | refine dL ?_ | refine dS ?_ | (first | refine dGo ?_ | refine dSk ?_ | refine dUn ?_ | fail) | (first | refine dPT ?_ | refine dPF ?_ | fail) | refine dV (OpVal.add rfl rfl (i64_in _ (by omega))) ?_ | refine dV (OpVal.sub rfl rfl (i64_in _ (by omega))) ?_ | refine dV (OpVal.neBool tab_ok rfl rfl rfl) ?_ | refine dV (OpVal.eqBool tab_ok rfl rfl rfl) ?_ | refine dV (OpVal.eqNil tab_ok rfl rfl rfl) ?_ | refine dV (OpVal.neNil tab_ok rfl rfl rfl) ?_ | fail)
  refine dV (OpVal.build (ps := [_, _]) tab_ok rfl rfl rfl rfl (by repeat (first | exact trivial | refine ⟨⟨_, _, _, rfl, rfl, rfl⟩, ?_⟩)) rfl) ?_
  refine dC (o := hP a2 c2) (h := ?_)
  rintro _ _ ⟨Hq2, rfl, ⟨g1, rfl, g2⟩ | ⟨g1, rfl, g2⟩⟩
  refine dG ?_
  · repeat (first | refine dL ?_ | refine dS ?_ | (first | refine dGo ?_ | refine dSk ?_ | refine dUn ?_ | fail) | (first | refine dPT ?_ | refine dPF ?_ | fail) | refine dV (OpVal.add rfl rfl (i64_in _ (by omega))) ?_ | refine dV (OpVal.sub rfl rfl (i64_in _ (by omega))) ?_ | refine dV (OpVal.neBool tab_ok rfl rfl rfl) ?_ | refine dV (OpVal.eqBool tab_ok rfl rfl rfl) ?_ | refine dV (OpVal.eqNil tab_ok rfl rfl rfl) ?_ | refine dV (OpVal.neNil tab_ok rfl rfl rfl) ?_ | fail)
    refine WD.nil (W.dropNil (aG ?_))
    repeat (first | refine gx ?_ | refine gN fun _ => ?_ | refine gB fun _ => ?_ | fail)
    have hf : d ≤ t.js.length := by omega
    rw [if_pos hf] at hsub
    subst hsub
    refine W.groupV [2, 2, 0, 1, 1] rfl ?_
    refine W.order [0, 1] rfl ?_
    refine W.ret (fin _ _ (FinOk.first 2 (.tmp rfl (.tmp rfl .nil)) rfl ?_))
    exact ⟨_, _, rfl, rfl, ⟨bm, bq, ao, co, ls, los, Hm, Hq2, Ho, _, rfl, hm, g2, hls, hown, hlo, hlj, hll⟩, hp⟩
  · refine dG ?_
    repeat (first | refine dL ?_ | refine dS ?_ | (first | refine dGo ?_ | refine dSk ?_ | refine dUn ?_ | fail) | (first | refine dPT ?_ | refine dPF ?_ | fail) | refine dV (OpVal.add rfl rfl (i64_in _ (by omega))) ?_ | refine dV (OpVal.sub rfl rfl (i64_in _ (by omega))) ?_ | refine dV (OpVal.neBool tab_ok rfl rfl rfl) ?_ | refine dV (OpVal.eqBool tab_ok rfl rfl rfl) ?_ | refine dV (OpVal.eqNil tab_ok rfl rfl rfl) ?_ | refine dV (OpVal.neNil tab_ok rfl rfl rfl) ?_ | fail)
    refine WD.nil (W.dropNil (aG ?_))
    repeat (first | refine gx ?_ | refine gN fun _ => ?_ | refine gB fun _ => ?_ | fail)
    have hf : ¬ d ≤ t.js.length := by omega
    rw [if_neg hf] at hsub
    subst hsub
    have hTA : TAt d { t with js := t.js ++ [(t.ids + 1, ⟨qo, qp, qf, ql, qd⟩)], ids := t.ids + 1 } b bp ([(b, Obj.cells (List.toArray [.pointer (some ⟨bm, 0, none⟩), .pointer (some ⟨bp, 0, none⟩), .pointer (some ⟨bq, 0, none⟩), .int .i64 t.pages, .int .i64 (t.ids + 1), .int .u64 t.c.h, .int .u64 t.c.m, .int .u64 t.c.e, .int .u64 t.c.r, .int .u64 t.c.w, .int .u64 t.c.f, .slice ao los.length co]) 55 (0, 0))] ++ (Hm ++ (Hq2 ++ (Ho ++ (H2 ++ D))))) := by
      refine ⟨bm, bq, ao, co, _, los, Hm, Hq2, Ho, H2 ++ D, rfl, hm, g2, by rw [List.map_append, hls]; rfl, hown, hlo, fun j hj => ?_, fun o ho => (hll o ho).imp fun r h => ⟨h.1, h.2.1, fun q hq => List.mem_append_right _ (h.2.2 q hq)⟩⟩
      rcases List.mem_append.1 hj with hj | hj
      · exact (hlj j hj).imp fun r h => ⟨h.1, fun q hq => List.mem_append_right _ (h.2 q hq)⟩
      · rw [List.mem_singleton.1 hj]
        exact ⟨H2, hr2, fun q hq => List.mem_append_left _ hq⟩
    have hR := Run_spec d _ (hput h0 hf) (by show t.ids + 1 ≤ 1000000; omega) b bp _ hTA Hp hp tick
    refine W.groupV [2, 2, 0, 1, 0, 0] rfl ?_
    refine aC (o := hR) (h := ?_)
    rintro _ _ ⟨H3, Hp3, rfl, ht3, hp3⟩
    refine aG ?_
    repeat (first | refine gx ?_ | refine gN fun _ => ?_ | refine gB fun _ => ?_ | fail)
    refine W.ret (fin _ _ (FinOk.first 2 (.tmp rfl (.tmp rfl .nil)) rfl ?_))
    exact ⟨_, _, rfl, rfl, ht3, hp3⟩
theorem Over_spec (d : Nat) (t : Tn) (hi : TInv d t) (hid : t.ids ≤ 1000000) (hb : t.m.todo ≠ []) (b bp : Nat) (H : HL) (ht : TAt d t b bp H) (Hp : HL) (hp : PtAt t.p bp Hp) (e : Int) (bs : List Int) (hu : e = 0 → u8ok bs ∧ bs.length = 16) (ab : Option Addr) (cb : Nat) (rb : HL) (hrb : RoSl 1 (u8s bs) ab bs.length rb) (tick : Int) :
    Ctr Tryz.prog 11 [.pointer (some ⟨b, 0, none⟩), .int .i64 e, .slice ab bs.length cb, .int .i64 tick] [H, Hp] rb (fun _ L' => ∃ H' Hp', L' = [H', Hp'] ∧ TAt d (t.over e bs tick) b bp H' ∧ PtAt (t.over e bs tick).p bp Hp') := by
  obtain ⟨bm, bq, ao, co, ls, los, Hm, Hq, Ho, D, rfl, hm, hqa, hls, hown, hlo, hlj, hll⟩ := ht
  have hd := end_done t.m t.p e bs
  have hne := hi.bz hb
  have hE := End_spec t.m hb bm bp Hm hm t.p hi.mi.inv Hp hp e bs ab cb rb hrb (fun h => ⟨got_len hi.mi (hu h).2, (mStep_inv hi.mi hb (hu h).1 (hu h).2).1, end_load_inv hi.mi hb (hu h).1 (hu h).2 _ _⟩)
  have hdat := mEnd_data t.m t.p e bs
  have hT1 := tell_inv hi hne (end_invE hi.mi hb e hu) hd.1 hd.2.1 tick
  have hT := fun Hm' (g1 : MAt (mEnd t.m t.p e bs).1 bm bp Hm') => Tell_spec d ({ t with m := (mEnd t.m t.p e bs).1, p := (mEnd t.m t.p e bs).2.1 } : Tn) b bp _ ⟨bm, bq, ao, co, ls, los, Hm', Hq, Ho, D, rfl, g1, hqa, hls, hown, hlo, hlj, hll⟩ (mEnd t.m t.p e bs).2.2 (fun _ => hne) hi.cok hd.1 tick none 0 0 [] (by rw [hdat]; exact ⟨rfl, .inl ⟨rfl, rfl⟩⟩) (by rw [hdat]; rfl) (by have := hi.ids; show t.out.length ≤ 1000000; omega)
  have hbp : ∀ Hp', PtAt (mEnd t.m t.p e bs).2.1 bp Hp' → PtAt (({ t with m := (mEnd t.m t.p e bs).1, p := (mEnd t.m t.p e bs).2.1 } : Tn).tell (mEnd t.m t.p e bs).2.2 tick).p bp Hp' := fun Hp' h => by
    unfold Tn.tell; split <;> exact h
  have hide := tell_ids ({ t with m := (mEnd t.m t.p e bs).1, p := (mEnd t.m t.p e bs).2.1 } : Tn) (mEnd t.m t.p e bs).2.2 tick
  unfold Tn.over
  generalize ({ t with m := (mEnd t.m t.p e bs).1, p := (mEnd t.m t.p e bs).2.1 } : Tn).tell (mEnd t.m t.p e bs).2.2 tick = t2 at *
  simp only at hide
  generalize mEnd t.m t.p e bs = me at *
  have hR := fun H2 ht2 Hp2 hp2 => Run_spec d t2 hT1 (by omega) b bp H2 ht2 Hp2 hp2 tick
  refine Ctr.enter (n := 21) [] [(0, _), (1, _), (2, _), (3, _)] Tryz.func11 rfl rfl rfl (lb rfl) Tryz.call11 ⟨rfl, rfl, rfl, rfl, trivial⟩ ?_
  intro cx fin fin0
  refine aG ?_
  refine spl5 rfl ?_
  refine aG ?_
  repeat (first | refine gx ?_ | refine gN fun _ => ?_ | refine gB fun _ => ?_ | fail)
  refine aC (o := hE) (h := ?_) (hro := RoIn.same)
  rintro _ _ ⟨Hm2, Hp2, rfl, rfl, g1, g2⟩
  refine aG ?_
  repeat (first | refine gx ?_ | refine gN fun _ => ?_ | refine gB fun _ => ?_ | fail)
  refine W.groupV [2, 0, 1, 1, 1] rfl ?_
  refine W.nilChunk ?_
  refine aC (o := hT Hm2 g1) (h := ?_)
  rintro _ _ ⟨H2, rfl, ht2⟩
  refine aG ?_
  repeat (first | refine gx ?_ | refine gN fun _ => ?_ | refine gB fun _ => ?_ | fail)
  refine aC (o := hR H2 ht2 Hp2 (hbp Hp2 g2)) (h := ?_)
  rintro _ _ ⟨H3, Hp3, rfl, ht3, hp3⟩
  refine aG ?_
  repeat (first | refine gx ?_ | refine gN fun _ => ?_ | refine gB fun _ => ?_ | fail)
  refine fin0 _ _ (FinOk.first 2 .nil rfl ?_)
  exact ⟨_, _, rfl, ht3, hp3⟩
theorem Out_spec (d : Nat) (t : Tn) (b bp : Nat) (H : HL) (ht : TAt d t b bp H) : Ctr Tryz.prog 12 [.pointer (some ⟨b, 0, none⟩)] [H] []
    (fun v L' => ∃ (los : List Ro) (a : Option Addr) (c : Nat) (H' Ho D : HL), v = .slice a los.length c ∧ L' = [H', Ho] ∧ TAt d t.taken b bp H' ∧ los.map Ro.r = t.out ∧ RoSl 11 (los.flatMap Ro.l) a los.length Ho ∧ (∀ q ∈ D, q ∈ H') ∧ (∀ o ∈ los, ∃ r, RoSl 1 (u8s o.r.data) o.a o.n r ∧ o.r.data.length = o.n ∧ ∀ q ∈ r, q ∈ D)) := by
  obtain ⟨bm, bq, ao, co, ls, los, Hm, Hq, Ho, D, rfl, hm, hqa, hls, hown, hlo, hlj, hll⟩ := ht
  refine Ctr.enter (n := 12) [.tmp 2] [(0, _)] Tryz.func12 rfl rfl rfl (lb rfl) Tryz.call12 ⟨rfl, trivial⟩ ?_
  intro cx fin fin0
  refine aG ?_
  refine spl5 rfl ?_
  refine aG ?_
  repeat (first | refine gx ?_ | refine gN fun _ => ?_ | refine gB fun _ => ?_ | fail)
  refine W.nilChunk ?_
  refine W.groupV [1, 1, 1, 0, 1] rfl ?_
  refine W.order [0, 0] rfl ?_
  refine W.ret (fin _ _ (FinOk.first 2 (.tmp rfl .nil) rfl ?_))
  exact ⟨los, ao, co, _, Ho, D, rfl, rfl, ⟨bm, bq, none, 0, ls, [], Hm, Hq, [], D, rfl, hm, hqa, hls, Own.nil 11 _, rfl, hlj, fun _ h => (by cases h)⟩, hlo, Own.roSl hown, fun q hq => by simp [hq], hll⟩
theorem Count_spec (d : Nat) (t : Tn) (b bp : Nat) (H : HL) (ht : TAt d t b bp H) : Ctr Tryz.prog 21 [.pointer (some ⟨b, 0, none⟩)] [] H (fun v L' => v = t.c.v ∧ L' = []) := by
  obtain ⟨bm, bq, ao, co, ls, los, Hm, Hq, Ho, D, rfl, hm, hqa, hls, hown, hlo, hlj, hll⟩ := ht
  refine Ctr.enter (n := 7) [.cell 2 40] [(0, _)] Tryz.func21 rfl rfl rfl (lb rfl) Tryz.call21 ⟨rfl, trivial⟩ ?_
  intro cx fin fin0
  refine aG ?_
  repeat (first | refine gx ?_ | refine gN fun _ => ?_ | refine gB fun _ => ?_ | fail)
  refine W.ret (fin _ _ (FinOk.first 0 (aRc .nil) rfl ?_))
  exact ⟨rfl, rfl⟩
theorem Waits_spec (d : Nat) (t : Tn) (b bp : Nat) (H : HL) (ht : TAt d t b bp H) : Ctr Tryz.prog 13 [.pointer (some ⟨b, 0, none⟩)] [] H (fun v L' => v = .int .i64 (t.js.length : Int) ∧ L' = []) := by
  obtain ⟨bm, bq, ao, co, ls, los, Hm, Hq, Ho, D, rfl, hm, hqa, hls, hown, hlo, hlj, hll⟩ := ht
  have hL := QLen_spec d ls bq Hq hqa
  have hlen : ls.length = t.js.length := by rw [← hls, List.length_map]
  rw [hlen] at hL
  refine Ctr.enter (n := 8) [.tmp 2] [(0, _)] Tryz.func13 rfl rfl rfl (lb rfl) Tryz.call13 ⟨rfl, trivial⟩ ?_
  intro cx fin fin0
  refine aG ?_
  repeat (first | refine gx ?_ | refine gN fun _ => ?_ | refine gB fun _ => ?_ | fail)
  refine aC (o := hL) (h := ?_) (hro := RoIn.all (fun q hq => by simp [hq]))
  rintro _ _ ⟨rfl, rfl⟩
  refine aG ?_
  repeat (first | refine gx ?_ | refine gN fun _ => ?_ | refine gB fun _ => ?_ | fail)
  refine W.ret (fin _ _ (FinOk.first 0 (.tmp rfl .nil) rfl ?_))
  exact ⟨rfl, rfl⟩
theorem TNew_spec (n d : Nat) (h1 : 1 ≤ d) (h8 : d ≤ 8) (pages : Int) (hp1 : 1 ≤ pages) (hp64 : pages ≤ 64) (bp : Nat) : Ctr Tryz.prog 25 [.pointer (some ⟨bp, 0, none⟩), .int .i64 (d : Int), .int .i64 pages] [] []
    (fun v L' => ∃ b H, v = .tuple #[.pointer (some ⟨b, 0, none⟩), .int .i64 0] ∧ L' = [H] ∧ TAt d (Tn.new n pages) b bp H) := by
  have k1 : ¬ (d : Int) < 1 := by omega
  have k2 : ¬ (d : Int) > 8 := by omega
  have k3 : ¬ pages < 1 := by omega
  have k4 : ¬ pages > 64 := by omega
  have hQ := QNew_spec d h1 h8
  have hM := MNew_spec bp
  refine Ctr.enter (n := 37) [.tmp 6, .tmp 7] [(0, _), (1, _), (2, _)] Tryz.func25 rfl rfl rfl (lb rfl) Tryz.call25 ⟨rfl, rfl, rfl, trivial⟩ ?_
  intro cx fin fin0
  refine aG ?_
  repeat (first | refine gh (gc4 k1 k2 k3 k4) ?_ | refine gN fun _ => ?_ | refine gB fun _ => ?_ | fail)
  refine aC (o := hQ) (h := ?_)
  rintro _ _ ⟨bq, Hq, rfl, rfl, hq⟩
  refine aG ?_
  repeat (first | refine gx ?_ | refine gN fun _ => ?_ | refine gB fun _ => ?_ | fail)
  refine aC (o := hM) (h := ?_)
  rintro _ _ ⟨bm, Hm, rfl, rfl, hm⟩
  refine aG ?_
  repeat (first | refine gx ?_ | refine gN fun _ => ?_ | refine gB fun _ => ?_ | fail)
  refine aBu (ps := [_, _, _, _]) ?_
  repeat (first | refine gx ?_ | refine gN fun _ => ?_ | refine gB fun _ => ?_ | fail)
  refine W.nilChunk ?_
  refine W.nilChunk ?_
  refine W.groupV [2, 2, 2, 0, 0] rfl ?_
  refine W.ret (fin _ _ (FinOk.first 1 (.tmp rfl (.tmp rfl .nil)) rfl ?_))
  exact ⟨_, _, rfl, rfl, bm, bq, none, 0, [], [], Hm, Hq, [], [], rfl, hm, hq, rfl, Own.nil 11 _, rfl, fun _ h => (by cases h), fun _ h => (by cases h)⟩
theorem TNewBad_spec (d pages : Int) (h : ¬ (1 ≤ d ∧ d ≤ 8 ∧ 1 ≤ pages ∧ pages ≤ 64)) (a : Option Addr) : Ctr Tryz.prog 25 [.pointer a, .int .i64 d, .int .i64 pages] [] [] (fun v L' => v = .tuple #[.pointer none, .int .i64 1] ∧ L' = []) := by
  refine Ctr.enter (n := 37) [.tmp 6, .tmp 7] [(0, _), (1, _), (2, _)] Tryz.func25 rfl rfl rfl (lb rfl) Tryz.call25 ⟨rfl, rfl, rfl, trivial⟩ ?_
  intro cx fin fin0
  refine aG ?_
  rcases (show d < 1 ∨ (¬ d < 1 ∧ d > 8) ∨ (¬ d < 1 ∧ ¬ d > 8 ∧ pages < 1) ∨ (¬ d < 1 ∧ ¬ d > 8 ∧ ¬ pages < 1 ∧ pages > 64) by omega) with k1 | ⟨k1, k2⟩ | ⟨k1, k2, k3⟩ | ⟨k1, k2, k3, k4⟩
  · repeat (first | refine gh k1 ?_ | refine gN fun _ => ?_ | refine gB fun _ => ?_ | fail)
    refine W.ret (fin _ _ (FinOk.first 0 (.tmp rfl (.tmp rfl .nil)) rfl ?_))
    exact ⟨rfl, rfl⟩
  · repeat (first | refine gh (gc2 k1 k2) ?_ | refine gN fun _ => ?_ | refine gB fun _ => ?_ | fail)
    refine W.ret (fin _ _ (FinOk.first 0 (.tmp rfl (.tmp rfl .nil)) rfl ?_))
    exact ⟨rfl, rfl⟩
  · repeat (first | refine gh (gc3 k1 k2 k3) ?_ | refine gN fun _ => ?_ | refine gB fun _ => ?_ | fail)
    refine W.ret (fin _ _ (FinOk.first 0 (.tmp rfl (.tmp rfl .nil)) rfl ?_))
    exact ⟨rfl, rfl⟩
  · repeat (first | refine gh (gc4 k1 k2 k3 k4) ?_ | refine gN fun _ => ?_ | refine gB fun _ => ?_ | fail)
    refine W.ret (fin _ _ (FinOk.first 0 (.tmp rfl (.tmp rfl .nil)) rfl ?_))
    exact ⟨rfl, rfl⟩
end Go.Proofs.YtfajcpnbhnddbaaGreat
namespace Go.Proofs.YtfajcpnbhnddbaaGreat
open Go Go.Sl Go.IntWalk
set_option maxHeartbeats 8000000
set_option maxRecDepth 20000
set_option linter.unusedVariables false
def Rs.d (r : Rs) : List Value := [.int .i64 r.id, .int .i64 r.errno, .bool r.hit, .int .i64 r.tick, .string (bstr r.data), .int .u64 r.c.h, .int .u64 r.c.m, .int .u64 r.c.e, .int .u64 r.c.r, .int .u64 r.c.w, .int .u64 r.c.f]
def DocT (d : Nat) (t : Tn) (l : List Value) (D : HL) : Prop := ∃ a c r at_ ct rt ag cg rg aq cq rq jl ao co ro,
  l = [.slice a t.p.fs.length c, .int .i64 t.p.hand, .int .i64 t.m.op, .int .i64 t.m.page, .slice at_ t.m.todo.length ct, .int .i64 t.m.to, .slice ag t.m.got.length cg, .int .i64 (d : Int), .int .i64 t.pages, .slice aq (List.length jl) cq, .int .i64 t.ids,
    .int .u64 t.c.h, .int .u64 t.c.m, .int .u64 t.c.e, .int .u64 t.c.r, .int .u64 t.c.w, .int .u64 t.c.f, .slice ao t.out.length co] ∧
  RoSl 6 (dflat t.p.fs) a t.p.fs.length r ∧ RoSl 3 (ios t.m.todo) at_ t.m.todo.length rt ∧ RoSl 1 (u8s t.m.got) ag t.m.got.length rg ∧ t.m.todo.length ≤ ct ∧ (∀ q ∈ r, q ∈ D) ∧ (∀ q ∈ rt, q ∈ D) ∧ (∀ q ∈ rg, q ∈ D) ∧
  jl.map Jb.j = t.js ∧ RoSl 6 (jl.flatMap Jb.l) aq jl.length rq ∧ jl.length ≤ cq ∧ (∀ q ∈ rq, q ∈ D) ∧ (∀ j ∈ jl, ∃ r, RoSl 1 (u8s j.xs) j.a j.xs.length r ∧ ∀ q ∈ r, q ∈ D) ∧
  RoSl 11 (t.out.flatMap Rs.d) ao t.out.length ro ∧ (∀ q ∈ ro, q ∈ D)
def VAt (d : Nat) (t : Tn) (tick : Int) (b bt bp : Nat) (Hw Ht Hp : HL) : Prop := ∃ l D, Hw = [(b, Obj.cells (List.toArray (.pointer (some ⟨bt, 0, none⟩) :: .pointer (some ⟨bp, 0, none⟩) :: (l ++ [.int .i64 tick]))) 45 (0, 0))] ++ D ∧
  DocT d t l D ∧ TAt d t bt bp Ht ∧ PtAt t.p bp Hp
theorem PNew_ok (n : Nat) (h1 : 1 ≤ n) (h64 : n ≤ 64) : Ctr Tryz.prog 24 [.int .i64 (n : Int)] [] [] (fun v L' => ∃ b H, v = .tuple #[.pointer (some ⟨b, 0, none⟩), .int .i64 0] ∧ L' = [H] ∧ PtAt (Pt.new n) b H) := by
  refine (New_spec (n : Int)).post ?_
  rintro v L' (⟨hbad, -, -⟩ | ⟨-, bp, Hp, rfl, rfl, hp⟩)
  · omega
  · exact ⟨bp, Hp, rfl, rfl, by rwa [Int.toNat_natCast] at hp⟩
theorem TRNew_spec (n d : Nat) (h64 : n ≤ 64) (pages : Int) : Ctr Tryz.prog 26 [.int .i64 (n : Int), .int .i64 (d : Int), .int .i64 pages] [] [] (fun v L' => ∃ l D, v = .agg (List.toArray l) ∧ L' = [D] ∧ DocT d (Tn.new n pages) l D) := by
  have hR := RNew_spec n h64
  refine Ctr.enter (n := 13) [.cell 6 43] [(0, _), (1, _), (2, _)] Tryz.func26 rfl rfl rfl (lb rfl) Tryz.call26 ⟨rfl, rfl, rfl, trivial⟩ ?_
  intro cx fin fin0
  refine aG ?_
  repeat (first | refine gx ?_ | refine gN fun _ => ?_ | refine gB fun _ => ?_ | fail)
  refine aC (o := hR) (h := ?_)
  rintro _ _ ⟨D, rfl, a, c, r, rfl, hro, hsub⟩
  refine aG ?_
  refine aBu (ps := [_]) ?_
  repeat (first | refine gx ?_ | refine gN fun _ => ?_ | refine gB fun _ => ?_ | fail)
  refine aBu (ps := [_, _, _]) ?_
  repeat (first | refine gx ?_ | refine gN fun _ => ?_ | refine gB fun _ => ?_ | fail)
  refine W.ret (fin _ _ (FinOk.first 1 (aRc .nil) rfl ?_))
  exact ⟨_, D, rfl, rfl, a, c, r, none, 0, [], none, 0, [], none, 0, [], [], none, 0, [], rfl, hro, ⟨rfl, .inl ⟨rfl, rfl⟩⟩, ⟨rfl, .inl ⟨rfl, rfl⟩⟩, Nat.le_refl _, hsub, (fun _ h => by cases h), (fun _ h => by cases h), rfl, ⟨rfl, .inl ⟨rfl, rfl⟩⟩, Nat.le_refl _, (fun _ h => by cases h), (fun _ h => by cases h), ⟨rfl, .inl ⟨rfl, rfl⟩⟩, (fun _ h => by cases h)⟩
theorem VBegin_spec (n d : Nat) (h1 : 1 ≤ n) (h64 : n ≤ 64) (k1 : 1 ≤ d) (k8 : d ≤ 8) (pages : Int) (q1 : 1 ≤ pages) (q64 : pages ≤ 64) : Ctr Tryz.prog 6 [.int .i64 (n : Int), .int .i64 (d : Int), .int .i64 pages] [] []
    (fun v L' => ∃ b bt bp Hw Ht Hp, v = .pointer (some ⟨b, 0, none⟩) ∧ L' = [Hw, Ht, Hp] ∧ VAt d (Tn.new n pages) 0 b bt bp Hw Ht Hp) := by
  have hN := PNew_ok n h1 h64
  have hT := TNew_spec n d k1 k8 pages q1 q64
  have hR := TRNew_spec n d h64 pages
  refine Ctr.enter (n := 48) [.tmp 6] [(0, _), (1, _), (2, _)] Tryz.func6 rfl rfl rfl (lb rfl) Tryz.call6 ⟨rfl, rfl, rfl, trivial⟩ ?_
  intro cx fin fin0
  refine aG ?_
  repeat (first | refine gx ?_ | refine gN fun _ => ?_ | refine gB fun _ => ?_ | fail)
  refine aC (o := hN) (h := ?_)
  rintro _ _ ⟨bp, Hp, rfl, rfl, hp⟩
  refine aG ?_
  repeat (first | refine gx ?_ | refine gN fun _ => ?_ | refine gB fun _ => ?_ | fail)
  refine aC (o := hT bp) (h := ?_)
  rintro _ _ ⟨bt, Ht, rfl, rfl, ht⟩
  refine aG ?_
  have hta := ht
  obtain ⟨bm, bq, ao, co, ls, los, Hm, Hq, Ho, D, rfl, hm, hqa, hls, hown, hlo, hlj, hll⟩ := ht
  refine spl5 rfl ?_
  repeat (first | refine gx ?_ | refine gN fun _ => ?_ | refine gB fun _ => ?_ | fail)
  refine aC (o := hR) (h := ?_)
  rintro _ _ ⟨l, D2, rfl, rfl, hdoc⟩
  refine aG ?_
  obtain ⟨a, c, r, at_, ct, rt, ag, cg, rg, aq, cq, rq, jl, aw, cw, ro, rfl, hdr⟩ := hdoc
  refine aBu (ps := [_, _, _]) ?_
  repeat (first | refine gx ?_ | refine gN fun _ => ?_ | refine gB fun _ => ?_ | fail)
  refine W.groupV [0, 0] rfl ?_
  refine W.groupV [1, 1, 1, 1, 1] rfl ?_
  refine W.order [1, 0, 0] rfl ?_
  refine W.ret (fin _ _ (FinOk.first 3 (.tmp rfl .nil) rfl ?_))
  exact ⟨_, bt, bp, _, _, _, rfl, rfl, _, D2, rfl, ⟨a, c, r, at_, ct, rt, ag, cg, rg, aq, cq, rq, jl, aw, cw, ro, rfl, hdr⟩, hta, hp⟩
def eq1 : Rq := ⟨1, 0, 0, 0, []⟩
def eq8 : Rq := ⟨8, 0, 0, 0, []⟩
def z16' : List Int := List.replicate 16 0
def y1 : Tn × Int × Int := (Tn.new 1 2).submit 1 eq1 0
def y2 : Tn × Int × Int := y1.1.submit 1 eq8 0
def y3 : Tn := y2.1.over 0 z16' 1
def y4 : Tn := y3.over 0 z16' 2
def y5 : Tn × Int × Int := y4.submit 1 eq8 3
theorem y1_is : (y1.2, y1.1.m.todo.length, y1.1.ids) = ((1, 0), 2, 1) := by kernel_rfl
theorem y2_is : (y2.2, y2.1.m.todo.length, y2.1.ids) = ((0, 8), 2, 1) := by kernel_rfl
theorem y3_is : (y3.m.todo.length, y3.ids) = (1, 1) := by kernel_rfl
theorem y4_is : (y4.m.todo.length, y4.ids) = (0, 1) := by kernel_rfl
theorem y5_is : (y5.2, y5.1.out.map fun r => (r.id, r.tick, r.c.m)) = ((2, 0), [(1, 2, 0), (2, 3, 1)]) := by kernel_rfl
theorem nou8 : u8ok [] := fun b hb => by cases hb
theorem y0_inv : TInv 1 (Tn.new 1 2) := new_inv 1 1 (by decide) (by decide) 2
theorem zu8 : u8ok z16' := fun b hb => by
  have := List.eq_of_mem_replicate hb
  omega
theorem ne_of_len {α : Type} {l : List α} {n : Nat} (h : l.length = n + 1) : l ≠ [] := fun h0 => by rw [h0] at h; cases h
theorem ys : ∃ (y1 y2 y5 : Tn × Int × Int) (y3 y4 : Tn), (Tn.new 1 2).submit 1 eq1 0 = y1 ∧ y1.1.submit 1 eq8 0 = y2 ∧ y2.1.over 0 z16' 1 = y3 ∧ y3.over 0 z16' 2 = y4 ∧ y4.submit 1 eq8 3 = y5 ∧
    (y1.2, y1.1.m.todo.length, y1.1.ids) = ((1, 0), 2, 1) ∧ (y2.2, y2.1.m.todo.length, y2.1.ids) = ((0, 8), 2, 1) ∧ (y3.m.todo.length, y3.ids) = (1, 1) ∧ (y4.m.todo.length, y4.ids) = (0, 1) ∧
    (y5.2, y5.1.out.map fun r => (r.id, r.tick, r.c.m)) = ((2, 0), [(1, 2, 0), (2, 3, 1)]) := ⟨y1, y2, y5, y3, y4, rfl, rfl, rfl, rfl, rfl, y1_is, y2_is, y3_is, y4_is, y5_is⟩
theorem rep16' : repL 16 [Value.int .u8 0] = u8s z16' := rfl
theorem nilro : RoSl 1 (u8s []) none 0 [] := ⟨rfl, .inl ⟨rfl, rfl⟩⟩
theorem TAt.mach {d : Nat} {t : Tn} {b bp : Nat} {H : HL} (h : TAt d t b bp H) : ∃ (bm : Nat) (rest : List Value) (Hm : HL), (b, Obj.cells (List.toArray (.pointer (some ⟨bm, 0, none⟩) :: rest)) 55 (0, 0)) ∈ H ∧ MAt t.m bm bp Hm ∧ ∀ q ∈ Hm, q ∈ H := by
  obtain ⟨bm, bq, ao, co, ls, los, Hm, Hq, Ho, D, rfl, hm, -⟩ := h
  exact ⟨bm, _, Hm, List.mem_append_left _ (List.mem_singleton.2 rfl), hm, fun q hq => by simp [hq]⟩
theorem los_one {los : List Ro} {r : Rs} (h : los.map Ro.r = [r]) : ∃ o, los = [o] ∧ o.r = r := by
  match los, h with
  | [o1], h => exact ⟨o1, rfl, by simpa using h⟩
theorem los_two {los : List Ro} (h : los.length = 2) : ∃ o1 o2, los = [o1, o2] := by
  match los, h with
  | [o1, o2], _ => exact ⟨o1, o2, rfl⟩
theorem VLives_spec : Ctr Tryz.prog 14 [] [] [] (fun v L' => v = .bool true ∧ L' = []) := by
  have hB := VBegin_spec 1 1 (by decide) (by decide) (by decide) (by decide) 2 (by decide) (by decide)
  obtain ⟨y1, y2, y5, y3, y4, w1, w2, w3, w4, w5, e1, e2, e3, e4, e5⟩ := ys
  obtain ⟨y1, a1, b1⟩ := y1
  obtain ⟨y2, a2, b2⟩ := y2
  obtain ⟨y5, a5, b5⟩ := y5
  simp only [Prod.mk.injEq] at e1 e2 e3 e4 e5 w1 w2 w3 w4 w5
  obtain ⟨⟨rfl, rfl⟩, e1a, e1b⟩ := e1
  obtain ⟨⟨rfl, rfl⟩, e2a, e2b⟩ := e2
  obtain ⟨⟨rfl, rfl⟩, e5⟩ := e5
  have i1 : TInv 1 y1 := by have := submit_inv y0_inv (q := eq1) (fun h => check_ok h nou8) 0; rw [w1] at this; exact this
  have i2 : TInv 1 y2 := by have := submit_inv i1 (q := eq8) (fun h => check_ok h nou8) 0; rw [w2] at this; exact this
  have n2 : y2.m.todo ≠ [] := ne_of_len e2a
  have n3 : y3.m.todo ≠ [] := ne_of_len e3.1
  have i3 : TInv 1 y3 := by have := over_inv i2 n2 0 (bs := z16') (fun _ => ⟨zu8, rfl⟩) 1; rw [w3] at this; exact this
  have i4 : TInv 1 y4 := by have := over_inv i3 n3 0 (bs := z16') (fun _ => ⟨zu8, rfl⟩) 2; rw [w4] at this; exact this
  refine Ctr.enter (n := 124) [.tmp 0] [] Tryz.func14 rfl rfl rfl (lb rfl) Tryz.call14 trivial ?_
  intro cx fin fin0
  refine aG ?_
  repeat (first | refine gx ?_ | refine gN fun _ => ?_ | refine gB fun _ => ?_ | fail)
  refine aC (o := hB) (h := ?_)
  rintro _ _ ⟨b, bt, bp, Hw, Ht, Hp, rfl, rfl, l, D, rfl, hdoc, ht, hp⟩
  refine aG ?_
  refine spl2 rfl ?_
  refine aG ?_
  have i64z : ∀ x : Int, 0 ≤ x → x ≤ 100 → i64s x := fun x h1 h2 => ⟨by omega, by omega⟩
  have h1 := Submit_spec 1 (Tn.new 1 2) y0_inv (by decide) bt bp Ht ht Hp hp eq1 nou8 (by decide) (i64z 0 (by decide) (by decide)) (i64z 1 (by decide) (by decide)) (fun h => check_ok h nou8) none 0 [] nilro 0
  rw [w1] at h1
  repeat (first | refine gx ?_ | refine gN fun _ => ?_ | refine gB fun _ => ?_ | fail)
  refine aBu (ps := [_]) ?_
  refine aC (o := h1) (h := ?_)
  rintro _ _ ⟨Ht1, Hp1, rfl, rfl, ht1, hp1⟩
  refine aG ?_
  have h2 := Submit_spec 1 y1 i1 (by rw [e1b]; decide) bt bp Ht1 ht1 Hp1 hp1 eq8 nou8 (by decide) (i64z 0 (by decide) (by decide)) (i64z 8 (by decide) (by decide)) (fun h => check_ok h nou8) none 0 [] nilro 0
  rw [w2] at h2
  repeat (first | refine gx ?_ | refine gN fun _ => ?_ | refine gB fun _ => ?_ | fail)
  refine aBu (ps := [_]) ?_
  refine aC (o := h2) (h := ?_)
  rintro _ _ ⟨Ht2, Hp2, rfl, rfl, ht2, hp2⟩
  refine aG ?_
  obtain ⟨bm2, rest2, Hm2, hin2, hm2, hsub2⟩ := ht2.mach
  have hU2 := Busy_spec _ bm2 bp Hm2 hm2
  rw [e2a] at hU2
  repeat (first | refine gx ?_ | refine gN fun _ => ?_ | refine gB fun _ => ?_ | fail)
  refine aV (OpVal.load tab_ok rfl (at_in 0 rfl hin2) rfl) ?_
  repeat (first | refine gx ?_ | refine gN fun _ => ?_ | refine gB fun _ => ?_ | fail)
  refine aC (o := hU2) (h := ?_) (hro := (fun q hq => RoIn.own 0 rfl q (hsub2 q hq)))
  rintro _ _ ⟨rfl, rfl⟩
  refine aG ?_
  repeat (first | refine gx ?_ | refine gN fun _ => ?_ | refine gB fun _ => ?_ | fail)
  have hE := fun (bz : Nat) (cb : Nat) => Over_spec 1 y2 i2 (by rw [e2b]; decide) n2 bt bp Ht2 ht2 Hp2 hp2 0 z16' (fun _ => ⟨zu8, rfl⟩) (some ⟨bz, 0, none⟩) cb _ (own_roT bz z16' 5) 1
  rw [w3] at hE
  refine W.drawH tab_ok 6 [.b false, .b false, .b false, .b false, .b true, .b true] [0,1] follows (by decide +kernel) (by decide +kernel) rfl (by decide) rfl ?_
  intro _
  refine dG ?_
  repeat (first | refine dL ?_ | refine dS ?_ | (first | refine dGo ?_ | refine dSk ?_ | refine dUn ?_ | fail) | (first | refine dPT ?_ | refine dPF ?_ | fail) | refine dV (OpVal.add rfl rfl (i64_in _ (by omega))) ?_ | refine dV (OpVal.sub rfl rfl (i64_in _ (by omega))) ?_ | refine dV (OpVal.neBool tab_ok rfl rfl rfl) ?_ | refine dV (OpVal.eqBool tab_ok rfl rfl rfl) ?_ | refine dV (OpVal.eqNil tab_ok rfl rfl rfl) ?_ | refine dV (OpVal.neNil tab_ok rfl rfl rfl) ?_ | fail)
  refine dW (NewOf.mks (bytes := 1) (len := 16) (cap := 16) tab_ok rfl rfl rfl rfl rfl rfl rfl rfl rfl (Nat.le_refl _) (by decide) (by decide)) ?_
  intro bz
  refine dG ?_
  rw [rep16']
  refine dC (o := hE bz 16) (h := ?_) (hro := RoIn.own 0 rfl)
  rintro _ _ ⟨Ht3, Hp3, rfl, ht3, hp3⟩
  refine dG ?_
  refine WD.nil (W.dropNil (aG ?_))
  obtain ⟨bm3, rest3, Hm3, hin3, hm3, hsub3⟩ := ht3.mach
  have hU3 := Busy_spec _ bm3 bp Hm3 hm3
  rw [e3.1] at hU3
  repeat (first | refine gx ?_ | refine gN fun _ => ?_ | refine gB fun _ => ?_ | fail)
  refine aV (OpVal.load tab_ok rfl (at_in 0 rfl hin3) rfl) ?_
  repeat (first | refine gx ?_ | refine gN fun _ => ?_ | refine gB fun _ => ?_ | fail)
  refine aC (o := hU3) (h := ?_) (hro := (fun q hq => RoIn.own 0 rfl q (hsub3 q hq)))
  rintro _ _ ⟨rfl, rfl⟩
  refine aG ?_
  repeat (first | refine gx ?_ | refine gN fun _ => ?_ | refine gB fun _ => ?_ | fail)
  have hE2 := fun (bz : Nat) (cb : Nat) => Over_spec 1 y3 i3 (by rw [e3.2]; decide) n3 bt bp Ht3 ht3 Hp3 hp3 0 z16' (fun _ => ⟨zu8, rfl⟩) (some ⟨bz, 0, none⟩) cb _ (own_roT bz z16' 5) 2
  rw [w4] at hE2
  refine W.drawH tab_ok 6 [.b false, .b false, .b false, .b false, .b true, .b true] [0,1] follows (by decide +kernel) (by decide +kernel) rfl (by decide) rfl ?_
  intro _
  refine dG ?_
  repeat (first | refine dL ?_ | refine dS ?_ | (first | refine dGo ?_ | refine dSk ?_ | refine dUn ?_ | fail) | (first | refine dPT ?_ | refine dPF ?_ | fail) | refine dV (OpVal.add rfl rfl (i64_in _ (by omega))) ?_ | refine dV (OpVal.sub rfl rfl (i64_in _ (by omega))) ?_ | refine dV (OpVal.neBool tab_ok rfl rfl rfl) ?_ | refine dV (OpVal.eqBool tab_ok rfl rfl rfl) ?_ | refine dV (OpVal.eqNil tab_ok rfl rfl rfl) ?_ | refine dV (OpVal.neNil tab_ok rfl rfl rfl) ?_ | fail)
  refine dW (NewOf.mks (bytes := 1) (len := 16) (cap := 16) tab_ok rfl rfl rfl rfl rfl rfl rfl rfl rfl (Nat.le_refl _) (by decide) (by decide)) ?_
  intro bz2
  refine dG ?_
  rw [rep16']
  refine dC (o := hE2 bz2 16) (h := ?_) (hro := RoIn.own 0 rfl)
  rintro _ _ ⟨Ht4, Hp4, rfl, ht4, hp4⟩
  refine dG ?_
  refine WD.nil (W.dropNil (aG ?_))
  have h5 := Submit_spec 1 y4 i4 (by rw [e4.2]; decide) bt bp Ht4 ht4 Hp4 hp4 eq8 nou8 (by decide) (i64z 0 (by decide) (by decide)) (i64z 8 (by decide) (by decide)) (fun h => check_ok h nou8) none 0 [] nilro 3
  rw [w5] at h5
  repeat (first | refine gx ?_ | refine gN fun _ => ?_ | refine gB fun _ => ?_ | fail)
  refine aBu (ps := [_]) ?_
  refine aC (o := h5) (h := ?_)
  rintro _ _ ⟨Ht5, Hp5, rfl, rfl, ht5, hp5⟩
  refine aG ?_
  repeat (first | refine gx ?_ | refine gN fun _ => ?_ | refine gB fun _ => ?_ | fail)
  refine aC (o := Out_spec 1 y5 bt bp Ht5 ht5) (h := ?_)
  rintro _ _ ⟨los, ao, co, Ht6, Ho, Do, rfl, rfl, ht6, hlo, hro, hsub, hll⟩
  refine aG ?_
  rw [← hlo] at e5
  obtain ⟨o1, o2, rfl⟩ := los_two (by simpa using congrArg List.length e5)
  have e6 := e5
  simp only [List.map_cons, List.map_nil, List.cons.injEq, Prod.mk.injEq, and_true] at e6
  obtain ⟨⟨g1, g2, g3⟩, g4, g5, g6⟩ := e6
  repeat (first | refine gx ?_ | refine gN fun _ => ?_ | refine gB fun _ => ?_ | fail)
  obtain ⟨bx, ox, lx, ex, frx, rfl, rfl, -, hld⟩ := RoSl.at (f := Ro.l) (m := 11) (fun _ => rfl) hro (show 0 < [o1, o2].length from lb rfl)
  obtain ⟨bx', ox', lx', ex', frx', hb', hro', -, hld'⟩ := RoSl.at (f := Ro.l) (m := 11) (fun _ => rfl) hro (show 1 < [o1, o2].length from lb rfl)
  cases hb'
  cases hro'
  refine aV (OpVal.ixSl (j := 0) tab_ok rfl rfl rfl rfl rfl (lb rfl)) ?_
  refine aV (OpVal.load tab_ok rfl (at_own 1 rfl) (hld 0 (by decide))) ?_
  repeat (first | refine gh g1 ?_ | refine gN fun _ => ?_ | refine gB fun _ => ?_ | fail)
  refine aV (OpVal.ixSl (j := 0) tab_ok rfl rfl rfl rfl rfl (lb rfl)) ?_
  repeat (first | refine gh g1 ?_ | refine gN fun _ => ?_ | refine gB fun _ => ?_ | fail)
  refine aV (OpVal.load tab_ok rfl (at_own 1 rfl) (hld 3 (by decide))) ?_
  repeat (first | refine gh (gc2 g1 g2) ?_ | refine gN fun _ => ?_ | refine gB fun _ => ?_ | fail)
  refine aV (OpVal.ixSl (j := 1) tab_ok rfl rfl rfl rfl rfl (lb rfl)) ?_
  repeat (first | refine gh (gc2 g1 g2) ?_ | refine gN fun _ => ?_ | refine gB fun _ => ?_ | fail)
  refine aV (OpVal.load tab_ok rfl (at_own 1 rfl) (hld' 0 (by decide))) ?_
  repeat (first | refine gh (gc3 g1 g2 g4) ?_ | refine gN fun _ => ?_ | refine gB fun _ => ?_ | fail)
  refine aV (OpVal.ixSl (j := 1) tab_ok rfl rfl rfl rfl rfl (lb rfl)) ?_
  repeat (first | refine gh (gc3 g1 g2 g4) ?_ | refine gN fun _ => ?_ | refine gB fun _ => ?_ | fail)
  refine aV (OpVal.load tab_ok rfl (at_own 1 rfl) (hld' 6 (by decide))) ?_
  repeat (first | refine gh (gc4 g1 g2 g4 g6) ?_ | refine gN fun _ => ?_ | refine gB fun _ => ?_ | fail)
  refine W.ret (fin _ _ (FinOk.first 0 (.tmp rfl .nil) rfl ?_))
  exact ⟨by simp [pack, g6], rfl⟩
end Go.Proofs.YtfajcpnbhnddbaaGreat
namespace Go.Proofs.YtfajcpnbhnddbaaGreat
open Go Go.Sl Go.IntWalk
set_option maxHeartbeats 8000000
set_option maxRecDepth 20000
set_option linter.unusedVariables false
theorem rcheck_pg {q : Rq} {pages : Int} (h : q.op = 1 ∨ q.op = 4 ∨ q.op = 5 ∨ q.op = 7) : rcheck q pages = if q.off ≠ 0 ∨ q.len ≠ 0 ∨ 0 < q.data.length then 2 else if q.page < 0 ∨ pages ≤ q.page then 4 else 0 := by
  obtain ⟨o, p, f, l, d⟩ := q
  simp only at h ⊢
  unfold rcheck rnamed
  simp only
  rw [if_pos h]
  by_cases hb : f ≠ 0 ∨ l ≠ 0 ∨ 0 < d.length
  · rw [if_pos hb, if_pos]
    refine .inr fun he => ?_
    simp only [Rq.mk.injEq, true_and] at he
    obtain ⟨rfl, rfl, rfl⟩ := he
    simp at hb
  · have hd : d = [] := List.eq_nil_of_length_eq_zero (by omega)
    obtain rfl : f = 0 := by omega
    obtain rfl : l = 0 := by omega
    subst hd
    rw [if_neg hb, if_neg (by simp; omega)]
    by_cases hp : p < 0 ∨ pages ≤ p
    · rw [if_pos hp, if_pos ⟨by omega, by omega, hp⟩]
    · rw [if_neg hp, if_neg (fun h => hp h.2.2), if_neg (by simp)]
theorem rcheck_no {q : Rq} {pages : Int} (h : q.op = 6 ∨ q.op = 8) : rcheck q pages = if q.page ≠ 0 ∨ q.off ≠ 0 ∨ q.len ≠ 0 ∨ 0 < q.data.length then 2 else 0 := by
  obtain ⟨o, p, f, l, d⟩ := q
  simp only at h ⊢
  unfold rcheck rnamed
  simp only
  rw [if_neg (show ¬ (o = 1 ∨ o = 4 ∨ o = 5 ∨ o = 7) by omega), if_neg (show ¬ o = 2 by omega), if_neg (show ¬ o = 3 by omega)]
  by_cases hb : p ≠ 0 ∨ f ≠ 0 ∨ l ≠ 0 ∨ 0 < d.length
  · rw [if_pos hb, if_pos]
    refine .inr fun he => ?_
    simp only [Rq.mk.injEq, true_and] at he
    obtain ⟨rfl, rfl, rfl, rfl⟩ := he
    simp at hb
  · have hd : d = [] := List.eq_nil_of_length_eq_zero (by omega)
    obtain rfl : p = 0 := by omega
    obtain rfl : f = 0 := by omega
    obtain rfl : l = 0 := by omega
    subst hd
    rw [if_neg hb, if_neg (by simp; omega), if_neg (by omega), if_neg (by simp)]
theorem rcheck_rd {q : Rq} {pages : Int} (h : q.op = 2) : rcheck q pages = if 0 < q.data.length then 2 else if q.page < 0 ∨ pages ≤ q.page then 4 else if q.off < 0 ∨ 32 < q.off ∨ q.len < 0 ∨ 32 - q.off < q.len then 4 else 0 := by
  obtain ⟨o, p, f, l, d⟩ := q
  simp only at h ⊢
  subst h
  unfold rcheck rnamed
  simp only
  rw [if_neg (by decide : ¬ ((2 : Int) = 1 ∨ (2 : Int) = 4 ∨ (2 : Int) = 5 ∨ (2 : Int) = 7)), if_pos trivial]
  by_cases hb : 0 < d.length
  · rw [if_pos hb, if_pos]
    refine .inr fun he => ?_
    simp only [Rq.mk.injEq, true_and] at he
    subst he
    simp at hb
  · have hd : d = [] := List.eq_nil_of_length_eq_zero (by omega)
    subst hd
    rw [if_neg hb, if_neg (by simp)]
    by_cases hp : p < 0 ∨ pages ≤ p
    · rw [if_pos hp, if_pos ⟨by decide, by decide, hp⟩]
    · rw [if_neg hp, if_neg (fun h => hp h.2.2)]
      by_cases hf : f < 0 ∨ 32 < f ∨ l < 0 ∨ 32 - f < l
      · rw [if_pos hf, if_pos (by omega)]
      · rw [if_neg hf, if_neg (by simp only [List.length_nil]; omega)]
theorem rcheck_wr {q : Rq} {pages : Int} (h : q.op = 3) : rcheck q pages = if q.len ≠ 0 then 2 else if q.page < 0 ∨ pages ≤ q.page then 4 else if q.off < 0 ∨ 32 < q.off ∨ 32 - q.off < (q.data.length : Int) then 4 else 0 := by
  obtain ⟨o, p, f, l, d⟩ := q
  simp only at h ⊢
  subst h
  unfold rcheck rnamed
  simp only
  rw [if_neg (by decide : ¬ ((3 : Int) = 1 ∨ (3 : Int) = 4 ∨ (3 : Int) = 5 ∨ (3 : Int) = 7)), if_neg (by decide : ¬ (3 : Int) = 2), if_pos trivial]
  by_cases hb : l ≠ 0
  · rw [if_pos hb, if_pos]
    refine .inr fun he => ?_
    simp only [Rq.mk.injEq, true_and, and_true] at he
    exact hb he
  · obtain rfl : l = 0 := by omega
    rw [if_neg hb, if_neg (by simp)]
    by_cases hp : p < 0 ∨ pages ≤ p
    · rw [if_pos hp, if_pos ⟨by decide, by decide, hp⟩]
    · rw [if_neg hp, if_neg (fun h => hp h.2.2)]
      by_cases hf : f < 0 ∨ 32 < f ∨ 32 - f < (d.length : Int)
      · rw [if_pos hf, if_pos (by omega)]
      · rw [if_neg hf, if_neg (by omega)]
theorem RCheck_spec (q : Rq) (pages : Int) (a : Option Addr) (c : Nat) (hoi : i64s q.off) :
    Ctr Tryz.prog 70 [q.v a c, .int .i64 pages] [] [] (fun v L' => v = .int .i64 (rcheck q pages) ∧ L' = []) := by
  have hk : q.op < 1 ∨ (¬ q.op < 1 ∧ q.op > 8) ∨ (q.op = 1 ∨ q.op = 4 ∨ q.op = 5 ∨ q.op = 7) ∨ (q.op = 6 ∨ q.op = 8) ∨ q.op = 2 ∨ q.op = 3 := by omega
  have hpg := rcheck_pg (q := q) (pages := pages)
  have hno := rcheck_no (q := q) (pages := pages)
  have hrd := rcheck_rd (q := q) (pages := pages)
  have hwr := rcheck_wr (q := q) (pages := pages)
  have hbad : ¬ (1 ≤ q.op ∧ q.op ≤ 8) → rcheck q pages = 2 := fun h => by unfold rcheck; rw [if_pos (.inl h)]
  generalize rcheck q pages = out at *
  obtain ⟨o1, p1, f1, l1, d1⟩ := q
  simp only at *
  rw [show (⟨o1, p1, f1, l1, d1⟩ : Rq).v a c = .agg #[.int .i64 o1, .int .i64 p1, .int .i64 f1, .int .i64 l1, .slice a d1.length c] from rfl]
  have hd0 : (d1.length : Int) > 0 ∨ ¬ (d1.length : Int) > 0 := by omega
  rcases hk with h | ⟨h, h'⟩ | h | h | rfl | rfl
  · rw [hbad (by omega)]
    refine Ctr.enter (n := 119) [.tmp 4] [(0, _), (1, _)] Tryz.func70 rfl rfl rfl (lb rfl) Tryz.call70 ⟨rfl, rfl, trivial⟩ ?_
    intro cx fin fin0
    refine aG ?_
    repeat (first | refine gh h ?_ | refine gN fun _ => ?_ | refine gB fun _ => ?_ | fail)
    refine W.ret (fin _ _ (FinOk.first 0 (.tmp rfl .nil) rfl ?_))
    exact ⟨rfl, rfl⟩
  · rw [hbad (by omega)]
    refine Ctr.enter (n := 119) [.tmp 4] [(0, _), (1, _)] Tryz.func70 rfl rfl rfl (lb rfl) Tryz.call70 ⟨rfl, rfl, trivial⟩ ?_
    intro cx fin fin0
    refine aG ?_
    repeat (first | refine gh (gc2 h h') ?_ | refine gN fun _ => ?_ | refine gB fun _ => ?_ | fail)
    refine W.ret (fin _ _ (FinOk.first 0 (.tmp rfl .nil) rfl ?_))
    exact ⟨rfl, rfl⟩
  · rw [hpg h]
    clear hpg hno hrd hwr hbad
    rcases (show (¬ f1 = 0) ∨ (f1 = 0 ∧ ¬ l1 = 0) ∨ (f1 = 0 ∧ l1 = 0 ∧ (d1.length : Int) > 0) ∨ (f1 = 0 ∧ l1 = 0 ∧ ¬ (d1.length : Int) > 0 ∧ p1 < 0) ∨ (f1 = 0 ∧ l1 = 0 ∧ ¬ (d1.length : Int) > 0 ∧ ¬ p1 < 0 ∧ p1 ≥ pages) ∨ (f1 = 0 ∧ l1 = 0 ∧ ¬ (d1.length : Int) > 0 ∧ ¬ p1 < 0 ∧ ¬ p1 ≥ pages) by omega) with k1 | ⟨k1, k2⟩ | ⟨k1, k2, k3⟩ | ⟨k1, k2, k3, k4⟩ | ⟨k1, k2, k3, k4, k5⟩ | ⟨k1, k2, k3, k4, k5⟩
    · rw [if_pos (by omega)]
      rcases h with rfl | rfl | rfl | rfl
      all_goals
        refine Ctr.enter (n := 119) [.tmp 4] [(0, _), (1, _)] Tryz.func70 rfl rfl rfl (lb rfl) Tryz.call70 ⟨rfl, rfl, trivial⟩ ?_
        intro cx fin fin0
        refine aG ?_
        repeat (first | refine gh k1 ?_ | refine gN fun _ => ?_ | refine gB fun _ => ?_ | fail)
        refine W.ret (fin _ _ (FinOk.first 0 (.tmp rfl .nil) rfl ?_))
        exact ⟨rfl, rfl⟩
    · rw [if_pos (by omega)]
      rcases h with rfl | rfl | rfl | rfl
      all_goals
        refine Ctr.enter (n := 119) [.tmp 4] [(0, _), (1, _)] Tryz.func70 rfl rfl rfl (lb rfl) Tryz.call70 ⟨rfl, rfl, trivial⟩ ?_
        intro cx fin fin0
        refine aG ?_
        repeat (first | refine gh (gc2 k1 k2) ?_ | refine gN fun _ => ?_ | refine gB fun _ => ?_ | fail)
        refine W.ret (fin _ _ (FinOk.first 0 (.tmp rfl .nil) rfl ?_))
        exact ⟨rfl, rfl⟩
    · rw [if_pos (by omega)]
      rcases h with rfl | rfl | rfl | rfl
      all_goals
        refine Ctr.enter (n := 119) [.tmp 4] [(0, _), (1, _)] Tryz.func70 rfl rfl rfl (lb rfl) Tryz.call70 ⟨rfl, rfl, trivial⟩ ?_
        intro cx fin fin0
        refine aG ?_
        repeat (first | refine gh (gc3 k1 k2 k3) ?_ | refine gN fun _ => ?_ | refine gB fun _ => ?_ | fail)
        refine W.ret (fin _ _ (FinOk.first 0 (.tmp rfl .nil) rfl ?_))
        exact ⟨rfl, rfl⟩
    · rw [if_neg (by omega), if_pos (by omega)]
      rcases h with rfl | rfl | rfl | rfl
      all_goals
        refine Ctr.enter (n := 119) [.tmp 4] [(0, _), (1, _)] Tryz.func70 rfl rfl rfl (lb rfl) Tryz.call70 ⟨rfl, rfl, trivial⟩ ?_
        intro cx fin fin0
        refine aG ?_
        repeat (first | refine gh (gc4 k1 k2 k3 k4) ?_ | refine gN fun _ => ?_ | refine gB fun _ => ?_ | fail)
        refine W.ret (fin _ _ (FinOk.first 0 (.tmp rfl .nil) rfl ?_))
        exact ⟨rfl, rfl⟩
    · rw [if_neg (by omega), if_pos (by omega)]
      rcases h with rfl | rfl | rfl | rfl
      all_goals
        refine Ctr.enter (n := 119) [.tmp 4] [(0, _), (1, _)] Tryz.func70 rfl rfl rfl (lb rfl) Tryz.call70 ⟨rfl, rfl, trivial⟩ ?_
        intro cx fin fin0
        refine aG ?_
        repeat (first | refine gh (gc5 k1 k2 k3 k4 k5) ?_ | refine gN fun _ => ?_ | refine gB fun _ => ?_ | fail)
        refine W.ret (fin _ _ (FinOk.first 0 (.tmp rfl .nil) rfl ?_))
        exact ⟨rfl, rfl⟩
    · rw [if_neg (by omega), if_neg (by omega)]
      rcases h with rfl | rfl | rfl | rfl
      all_goals
        refine Ctr.enter (n := 119) [.tmp 4] [(0, _), (1, _)] Tryz.func70 rfl rfl rfl (lb rfl) Tryz.call70 ⟨rfl, rfl, trivial⟩ ?_
        intro cx fin fin0
        refine aG ?_
        repeat (first | refine gh (gc5 k1 k2 k3 k4 k5) ?_ | refine gN fun _ => ?_ | refine gB fun _ => ?_ | fail)
        refine W.ret (fin _ _ (FinOk.first 0 (.tmp rfl .nil) rfl ?_))
        exact ⟨rfl, rfl⟩
  · rw [hno h]
    clear hpg hno hrd hwr hbad
    rcases (show (¬ p1 = 0) ∨ (p1 = 0 ∧ ¬ f1 = 0) ∨ (p1 = 0 ∧ f1 = 0 ∧ ¬ l1 = 0) ∨ (p1 = 0 ∧ f1 = 0 ∧ l1 = 0 ∧ (d1.length : Int) > 0) ∨ (p1 = 0 ∧ f1 = 0 ∧ l1 = 0 ∧ ¬ (d1.length : Int) > 0) by omega) with k1 | ⟨k1, k2⟩ | ⟨k1, k2, k3⟩ | ⟨k1, k2, k3, k4⟩ | ⟨k1, k2, k3, k4⟩
    · rw [if_pos (by omega)]
      rcases h with rfl | rfl
      all_goals
        refine Ctr.enter (n := 119) [.tmp 4] [(0, _), (1, _)] Tryz.func70 rfl rfl rfl (lb rfl) Tryz.call70 ⟨rfl, rfl, trivial⟩ ?_
        intro cx fin fin0
        refine aG ?_
        repeat (first | refine gh k1 ?_ | refine gN fun _ => ?_ | refine gB fun _ => ?_ | fail)
        refine W.ret (fin _ _ (FinOk.first 0 (.tmp rfl .nil) rfl ?_))
        exact ⟨rfl, rfl⟩
    · rw [if_pos (by omega)]
      rcases h with rfl | rfl
      all_goals
        refine Ctr.enter (n := 119) [.tmp 4] [(0, _), (1, _)] Tryz.func70 rfl rfl rfl (lb rfl) Tryz.call70 ⟨rfl, rfl, trivial⟩ ?_
        intro cx fin fin0
        refine aG ?_
        repeat (first | refine gh (gc2 k1 k2) ?_ | refine gN fun _ => ?_ | refine gB fun _ => ?_ | fail)
        refine W.ret (fin _ _ (FinOk.first 0 (.tmp rfl .nil) rfl ?_))
        exact ⟨rfl, rfl⟩
    · rw [if_pos (by omega)]
      rcases h with rfl | rfl
      all_goals
        refine Ctr.enter (n := 119) [.tmp 4] [(0, _), (1, _)] Tryz.func70 rfl rfl rfl (lb rfl) Tryz.call70 ⟨rfl, rfl, trivial⟩ ?_
        intro cx fin fin0
        refine aG ?_
        repeat (first | refine gh (gc3 k1 k2 k3) ?_ | refine gN fun _ => ?_ | refine gB fun _ => ?_ | fail)
        refine W.ret (fin _ _ (FinOk.first 0 (.tmp rfl .nil) rfl ?_))
        exact ⟨rfl, rfl⟩
    · rw [if_pos (by omega)]
      rcases h with rfl | rfl
      all_goals
        refine Ctr.enter (n := 119) [.tmp 4] [(0, _), (1, _)] Tryz.func70 rfl rfl rfl (lb rfl) Tryz.call70 ⟨rfl, rfl, trivial⟩ ?_
        intro cx fin fin0
        refine aG ?_
        repeat (first | refine gh (gc4 k1 k2 k3 k4) ?_ | refine gN fun _ => ?_ | refine gB fun _ => ?_ | fail)
        refine W.ret (fin _ _ (FinOk.first 0 (.tmp rfl .nil) rfl ?_))
        exact ⟨rfl, rfl⟩
    · rw [if_neg (by omega)]
      rcases h with rfl | rfl
      all_goals
        refine Ctr.enter (n := 119) [.tmp 4] [(0, _), (1, _)] Tryz.func70 rfl rfl rfl (lb rfl) Tryz.call70 ⟨rfl, rfl, trivial⟩ ?_
        intro cx fin fin0
        refine aG ?_
        repeat (first | refine gh (gc4 k1 k2 k3 k4) ?_ | refine gN fun _ => ?_ | refine gB fun _ => ?_ | fail)
        refine W.ret (fin _ _ (FinOk.first 0 (.tmp rfl .nil) rfl ?_))
        exact ⟨rfl, rfl⟩
  · rw [hrd rfl]
    clear hpg hno hrd hwr hbad
    unfold i64s at hoi
    rcases (show ((d1.length : Int) > 0) ∨ (¬ (d1.length : Int) > 0 ∧ p1 < 0) ∨ (¬ (d1.length : Int) > 0 ∧ ¬ p1 < 0 ∧ p1 ≥ pages) ∨ ((¬ (d1.length : Int) > 0 ∧ ¬ p1 < 0 ∧ ¬ p1 ≥ pages) ∧ (f1 < 0 ∨ (¬ f1 < 0 ∧ f1 > 32) ∨ (¬ f1 < 0 ∧ ¬ f1 > 32 ∧ l1 < 0) ∨ (¬ f1 < 0 ∧ ¬ f1 > 32 ∧ ¬ l1 < 0 ∧ l1 > 32 - f1) ∨ (¬ f1 < 0 ∧ ¬ f1 > 32 ∧ ¬ l1 < 0 ∧ ¬ l1 > 32 - f1))) by omega) with k1 | ⟨k1, k2⟩ | ⟨k1, k2, k3⟩ | ⟨⟨k1, k2, k3⟩, g1 | ⟨g1, g2⟩ | ⟨g1, g2, g3⟩ | ⟨g1, g2, g3, g4⟩ | ⟨g1, g2, g3, g4⟩⟩
    · rw [if_pos (by omega)]
      refine Ctr.enter (n := 119) [.tmp 4] [(0, _), (1, _)] Tryz.func70 rfl rfl rfl (lb rfl) Tryz.call70 ⟨rfl, rfl, trivial⟩ ?_
      intro cx fin fin0
      refine aG ?_
      repeat (first | refine gh k1 ?_ | refine gN fun _ => ?_ | refine gB fun _ => ?_ | fail)
      refine W.ret (fin _ _ (FinOk.first 0 (.tmp rfl .nil) rfl ?_))
      exact ⟨rfl, rfl⟩
    · rw [if_neg (by omega), if_pos (by omega)]
      refine Ctr.enter (n := 119) [.tmp 4] [(0, _), (1, _)] Tryz.func70 rfl rfl rfl (lb rfl) Tryz.call70 ⟨rfl, rfl, trivial⟩ ?_
      intro cx fin fin0
      refine aG ?_
      repeat (first | refine gh (gc2 k1 k2) ?_ | refine gN fun _ => ?_ | refine gB fun _ => ?_ | fail)
      refine W.ret (fin _ _ (FinOk.first 0 (.tmp rfl .nil) rfl ?_))
      exact ⟨rfl, rfl⟩
    · rw [if_neg (by omega), if_pos (by omega)]
      refine Ctr.enter (n := 119) [.tmp 4] [(0, _), (1, _)] Tryz.func70 rfl rfl rfl (lb rfl) Tryz.call70 ⟨rfl, rfl, trivial⟩ ?_
      intro cx fin fin0
      refine aG ?_
      repeat (first | refine gh (gc3 k1 k2 k3) ?_ | refine gN fun _ => ?_ | refine gB fun _ => ?_ | fail)
      refine W.ret (fin _ _ (FinOk.first 0 (.tmp rfl .nil) rfl ?_))
      exact ⟨rfl, rfl⟩
    · rw [if_neg (by omega), if_neg (by omega), if_pos (by omega)]
      refine Ctr.enter (n := 119) [.tmp 4] [(0, _), (1, _)] Tryz.func70 rfl rfl rfl (lb rfl) Tryz.call70 ⟨rfl, rfl, trivial⟩ ?_
      intro cx fin fin0
      refine aG ?_
      repeat (first | refine gh (gc4 k1 k2 k3 g1) ?_ | refine gN fun _ => ?_ | refine gB fun _ => ?_ | fail)
      refine W.ret (fin _ _ (FinOk.first 0 (.tmp rfl .nil) rfl ?_))
      exact ⟨rfl, rfl⟩
    · rw [if_neg (by omega), if_neg (by omega), if_pos (by omega)]
      refine Ctr.enter (n := 119) [.tmp 4] [(0, _), (1, _)] Tryz.func70 rfl rfl rfl (lb rfl) Tryz.call70 ⟨rfl, rfl, trivial⟩ ?_
      intro cx fin fin0
      refine aG ?_
      repeat (first | refine gh (gc5 k1 k2 k3 g1 g2) ?_ | refine gN fun _ => ?_ | refine gB fun _ => ?_ | fail)
      refine W.ret (fin _ _ (FinOk.first 0 (.tmp rfl .nil) rfl ?_))
      exact ⟨rfl, rfl⟩
    · rw [if_neg (by omega), if_neg (by omega), if_pos (by omega)]
      refine Ctr.enter (n := 119) [.tmp 4] [(0, _), (1, _)] Tryz.func70 rfl rfl rfl (lb rfl) Tryz.call70 ⟨rfl, rfl, trivial⟩ ?_
      intro cx fin fin0
      refine aG ?_
      repeat (first | refine gh (gc3 k1 k2 k3) ?_ | refine gN fun _ => ?_ | refine gB fun _ => ?_ | fail)
      repeat (first | refine gh (gc3 g1 g2 g3) ?_ | refine gN fun _ => ?_ | refine gB fun _ => ?_ | fail)
      refine W.ret (fin _ _ (FinOk.first 0 (.tmp rfl .nil) rfl ?_))
      exact ⟨rfl, rfl⟩
    · rw [if_neg (by omega), if_neg (by omega), if_pos (by omega)]
      refine Ctr.enter (n := 119) [.tmp 4] [(0, _), (1, _)] Tryz.func70 rfl rfl rfl (lb rfl) Tryz.call70 ⟨rfl, rfl, trivial⟩ ?_
      intro cx fin fin0
      refine aG ?_
      repeat (first | refine gh (gc3 k1 k2 k3) ?_ | refine gN fun _ => ?_ | refine gB fun _ => ?_ | fail)
      repeat (first | refine gh (gc4 g1 g2 g3 g4) ?_ | refine gN fun _ => ?_ | refine gB fun _ => ?_ | fail)
      refine W.ret (fin _ _ (FinOk.first 0 (.tmp rfl .nil) rfl ?_))
      exact ⟨rfl, rfl⟩
    · rw [if_neg (by omega), if_neg (by omega), if_neg (by omega)]
      refine Ctr.enter (n := 119) [.tmp 4] [(0, _), (1, _)] Tryz.func70 rfl rfl rfl (lb rfl) Tryz.call70 ⟨rfl, rfl, trivial⟩ ?_
      intro cx fin fin0
      refine aG ?_
      repeat (first | refine gh (gc3 k1 k2 k3) ?_ | refine gN fun _ => ?_ | refine gB fun _ => ?_ | fail)
      repeat (first | refine gh (gc4 g1 g2 g3 g4) ?_ | refine gN fun _ => ?_ | refine gB fun _ => ?_ | fail)
      refine W.ret (fin _ _ (FinOk.first 0 (.tmp rfl .nil) rfl ?_))
      exact ⟨rfl, rfl⟩
  · rw [hwr rfl]
    clear hpg hno hrd hwr hbad
    unfold i64s at hoi
    rcases (show (¬ l1 = 0) ∨ (l1 = 0 ∧ p1 < 0) ∨ (l1 = 0 ∧ ¬ p1 < 0 ∧ p1 ≥ pages) ∨ ((l1 = 0 ∧ ¬ p1 < 0 ∧ ¬ p1 ≥ pages) ∧ (f1 < 0 ∨ (¬ f1 < 0 ∧ f1 > 32) ∨ (¬ f1 < 0 ∧ ¬ f1 > 32 ∧ (d1.length : Int) > 32 - f1) ∨ (¬ f1 < 0 ∧ ¬ f1 > 32 ∧ ¬ (d1.length : Int) > 32 - f1))) by omega) with k1 | ⟨k1, k2⟩ | ⟨k1, k2, k3⟩ | ⟨⟨k1, k2, k3⟩, g1 | ⟨g1, g2⟩ | ⟨g1, g2, g3⟩ | ⟨g1, g2, g3⟩⟩
    · rw [if_pos (by omega)]
      refine Ctr.enter (n := 119) [.tmp 4] [(0, _), (1, _)] Tryz.func70 rfl rfl rfl (lb rfl) Tryz.call70 ⟨rfl, rfl, trivial⟩ ?_
      intro cx fin fin0
      refine aG ?_
      repeat (first | refine gh k1 ?_ | refine gN fun _ => ?_ | refine gB fun _ => ?_ | fail)
      refine W.ret (fin _ _ (FinOk.first 0 (.tmp rfl .nil) rfl ?_))
      exact ⟨rfl, rfl⟩
    · rw [if_neg (by omega), if_pos (by omega)]
      refine Ctr.enter (n := 119) [.tmp 4] [(0, _), (1, _)] Tryz.func70 rfl rfl rfl (lb rfl) Tryz.call70 ⟨rfl, rfl, trivial⟩ ?_
      intro cx fin fin0
      refine aG ?_
      repeat (first | refine gh (gc2 k1 k2) ?_ | refine gN fun _ => ?_ | refine gB fun _ => ?_ | fail)
      refine W.ret (fin _ _ (FinOk.first 0 (.tmp rfl .nil) rfl ?_))
      exact ⟨rfl, rfl⟩
    · rw [if_neg (by omega), if_pos (by omega)]
      refine Ctr.enter (n := 119) [.tmp 4] [(0, _), (1, _)] Tryz.func70 rfl rfl rfl (lb rfl) Tryz.call70 ⟨rfl, rfl, trivial⟩ ?_
      intro cx fin fin0
      refine aG ?_
      repeat (first | refine gh (gc3 k1 k2 k3) ?_ | refine gN fun _ => ?_ | refine gB fun _ => ?_ | fail)
      refine W.ret (fin _ _ (FinOk.first 0 (.tmp rfl .nil) rfl ?_))
      exact ⟨rfl, rfl⟩
    · rw [if_neg (by omega), if_neg (by omega), if_pos (by omega)]
      refine Ctr.enter (n := 119) [.tmp 4] [(0, _), (1, _)] Tryz.func70 rfl rfl rfl (lb rfl) Tryz.call70 ⟨rfl, rfl, trivial⟩ ?_
      intro cx fin fin0
      refine aG ?_
      repeat (first | refine gh (gc4 k1 k2 k3 g1) ?_ | refine gN fun _ => ?_ | refine gB fun _ => ?_ | fail)
      refine W.ret (fin _ _ (FinOk.first 0 (.tmp rfl .nil) rfl ?_))
      exact ⟨rfl, rfl⟩
    · rw [if_neg (by omega), if_neg (by omega), if_pos (by omega)]
      refine Ctr.enter (n := 119) [.tmp 4] [(0, _), (1, _)] Tryz.func70 rfl rfl rfl (lb rfl) Tryz.call70 ⟨rfl, rfl, trivial⟩ ?_
      intro cx fin fin0
      refine aG ?_
      repeat (first | refine gh (gc5 k1 k2 k3 g1 g2) ?_ | refine gN fun _ => ?_ | refine gB fun _ => ?_ | fail)
      refine W.ret (fin _ _ (FinOk.first 0 (.tmp rfl .nil) rfl ?_))
      exact ⟨rfl, rfl⟩
    · rw [if_neg (by omega), if_neg (by omega), if_pos (by omega)]
      refine Ctr.enter (n := 119) [.tmp 4] [(0, _), (1, _)] Tryz.func70 rfl rfl rfl (lb rfl) Tryz.call70 ⟨rfl, rfl, trivial⟩ ?_
      intro cx fin fin0
      refine aG ?_
      repeat (first | refine gh (gc3 k1 k2 k3) ?_ | refine gN fun _ => ?_ | refine gB fun _ => ?_ | fail)
      repeat (first | refine gh (gc3 g1 g2 g3) ?_ | refine gN fun _ => ?_ | refine gB fun _ => ?_ | fail)
      refine W.ret (fin _ _ (FinOk.first 0 (.tmp rfl .nil) rfl ?_))
      exact ⟨rfl, rfl⟩
    · rw [if_neg (by omega), if_neg (by omega), if_neg (by omega)]
      refine Ctr.enter (n := 119) [.tmp 4] [(0, _), (1, _)] Tryz.func70 rfl rfl rfl (lb rfl) Tryz.call70 ⟨rfl, rfl, trivial⟩ ?_
      intro cx fin fin0
      refine aG ?_
      repeat (first | refine gh (gc3 k1 k2 k3) ?_ | refine gN fun _ => ?_ | refine gB fun _ => ?_ | fail)
      repeat (first | refine gh (gc3 g1 g2 g3) ?_ | refine gN fun _ => ?_ | refine gB fun _ => ?_ | fail)
      refine W.ret (fin _ _ (FinOk.first 0 (.tmp rfl .nil) rfl ?_))
      exact ⟨rfl, rfl⟩
theorem RFew_spec (q : Rq) (a : Option Addr) (c : Nat) (hc : q.data.length ≤ c) (ro : HL) (hro : RoSl 1 (u8s q.data) a q.data.length ro) :
    Ctr Tryz.prog 36 [q.v a c] [] ro (fun v L' => ∃ a' c' H, v = ({ q with data := q.data.take 34 } : Rq).v a' c' ∧ L' = [H] ∧ RoSl 1 (u8s (q.data.take 34)) a' (q.data.take 34).length H) := by
  have hF := Few_spec q.data a c hc ro hro 34 (by decide) (by decide)
  obtain ⟨o1, p1, f1, l1, d1⟩ := q
  simp only at *
  refine Ctr.enter (n := 8) [.cell 2 48] [(0, _)] Tryz.func36 rfl rfl rfl (lb rfl) Tryz.call36 ⟨rfl, trivial⟩ ?_
  intro cx fin fin0
  refine aG ?_
  repeat (first | refine gx ?_ | refine gN fun _ => ?_ | refine gB fun _ => ?_ | fail)
  refine aC (o := hF) (h := ?_) (hro := RoIn.same)
  rintro _ _ ⟨ag, cg, Hg, rfl, rfl, hog⟩
  refine aG ?_
  repeat (first | refine gx ?_ | refine gN fun _ => ?_ | refine gB fun _ => ?_ | fail)
  refine W.ret (fin _ _ (FinOk.first 1 (aRc .nil) rfl ?_))
  exact ⟨ag, cg, _, rfl, rfl, Own.roSl hog⟩
end Go.Proofs.YtfajcpnbhnddbaaGreat
namespace Go.Proofs.YtfajcpnbhnddbaaGreat
open Go Go.Sl Go.IntWalk
set_option maxHeartbeats 8000000
set_option maxRecDepth 20000
set_option linter.unusedVariables false
theorem rsd_len (r : Rs) : r.d.length = 11 := rfl
theorem rsd_one (xs : List Rs) : allOne (xs.flatMap Rs.d) = true := allOne_of fun v hv => by
  obtain ⟨r, -, hr⟩ := List.mem_flatMap.1 hv
  simp only [Rs.d, List.mem_cons, List.not_mem_nil, or_false] at hr
  rcases hr with rfl | rfl | rfl | rfl | rfl | rfl | rfl | rfl | rfl | rfl | rfl <;> rfl
theorem jbl_one (xs : List Jb) : allOne (xs.flatMap Jb.l) = true := allOne_of fun v hv => by
  obtain ⟨r, -, hr⟩ := List.mem_flatMap.1 hv
  simp only [Jb.l, List.mem_cons, List.not_mem_nil, or_false] at hr
  rcases hr with rfl | rfl | rfl | rfl | rfl | rfl <;> rfl
theorem DocT.mono {d : Nat} {t : Tn} {l : List Value} {D D' : HL} (h : DocT d t l D) (hs : ∀ q ∈ D, q ∈ D') : DocT d t l D' := by
  obtain ⟨a, c, r, at_, ct, rt, ag, cg, rg, aq, cq, rq, jl, ao, co, ro, h0, h1, h2, h3, h4, h5, h6, h7, h8, h9, h10, h11, h12, h13, h14⟩ := h
  exact ⟨a, c, r, at_, ct, rt, ag, cg, rg, aq, cq, rq, jl, ao, co, ro, h0, h1, h2, h3, h4, fun q hq => hs q (h5 q hq), fun q hq => hs q (h6 q hq), fun q hq => hs q (h7 q hq), h8, h9, h10, fun q hq => hs q (h11 q hq), fun j hj => (h12 j hj).imp fun r h => ⟨h.1, fun q hq => hs q (h.2 q hq)⟩, h13, fun q hq => hs q (h14 q hq)⟩
theorem RTell_spec (d : Nat) (t : Tn) (l : List Value) (D : HL) (hd : DocT d t l D) (x : Re) (hx : x.done = true → t.js ≠ []) (hc : t.c.Ok) (ha : x.add.Ok) (tick : Int) (hout : t.out.length ≤ 1000000) :
    Ctr Tryz.prog 73 [.agg l.toArray, x.d, .int .i64 tick] [] D (fun v L' => ∃ H l', v = .agg (List.toArray l') ∧ L' = [H] ∧ DocT d (t.tell x tick) l' (H ++ D)) := by
  have hS := fun bs => RSum_spec [t.c, x.add] (fun q hq => by simp only [List.mem_cons, List.not_mem_nil, or_false] at hq; rcases hq with rfl | rfl <;> assumption) (lb rfl) (some ⟨bs, 0, none⟩) 2 _ (sum2_at (e := 40) bs)
  have htl : t.tell x tick = t.tell x tick := rfl
  conv at htl => rhs; unfold Tn.tell
  generalize t.tell x tick = out at *
  obtain ⟨a, c, r, at_, ct, rt, ag, cg, rg, aq, cq, rq, jl, ao, co, ro, rfl, h1, h2, h3, h4, h5, h6, h7, h8, h9, h10, h11, h12, h13, h14⟩ := hd
  obtain ⟨xd, xe, xh, xdat, ⟨k1, k2, k3, k4, k5, k6⟩⟩ := x
  obtain ⟨tm, tp, tjs, tpg, tids, ⟨c1, c2, c3, c4, c5, c6⟩, tout⟩ := t
  simp only at *
  generalize sumC [⟨c1, c2, c3, c4, c5, c6⟩, ⟨k1, k2, k3, k4, k5, k6⟩] = sm at *
  obtain ⟨s1, s2, s3, s4, s5, s6⟩ := sm
  simp only [Re.d]
  refine Ctr.enter (n := 57) [.cell 6 43] [(0, _), (1, _), (2, _)] Tryz.func73 rfl rfl rfl (lb rfl) Tryz.call73 ⟨rfl, rfl, rfl, trivial⟩ ?_
  intro cx fin fin0
  refine aG ?_
  repeat (first | refine gx ?_ | refine gN fun _ => ?_ | refine gB fun _ => ?_ | fail)
  refine aSl (ps := [_, _]) ?_
  intro bs
  refine aG ?_
  refine aC (o := hS bs) (h := ?_) (hro := RoIn.own 0 rfl)
  rintro _ _ ⟨rfl, rfl⟩
  refine aG ?_
  repeat (first | refine gx ?_ | refine gN fun _ => ?_ | refine gB fun _ => ?_ | fail)
  cases xd with
  | false =>
    rw [if_neg (by simp)] at htl
    subst htl
    repeat (first | refine gx ?_ | refine gN fun _ => ?_ | refine gB fun _ => ?_ | fail)
    refine W.nilChunk ?_
    refine W.ret (fin _ _ (FinOk.first 1 (aRc .nil) rfl ?_))
    exact ⟨[], _, rfl, rfl, a, c, r, at_, ct, rt, ag, cg, rg, aq, cq, rq, jl, ao, co, ro, rfl, h1, h2, h3, h4, h5, h6, h7, h8, h9, h10, h11, h12, h13, h14⟩
  | true =>
    rw [if_pos rfl] at htl
    cases jl with
    | nil => exact absurd h8.symm (hx rfl)
    | cons j jl =>
      have hj0 : 0 < (j :: jl).length := Nat.succ_pos _
      obtain ⟨bx, ox, lx, ex, frx, rfl, rfl, -, hld⟩ := RoSl.at (f := Jb.l) (m := 6) (fun _ => rfl) h9 hj0
      have hb9 : RoSl 6 (jl.flatMap Jb.l) ((some (⟨bx, ox, none⟩ : Addr)).map fun ad => if cq = 1 then ad else ad.add (1 * 6)) jl.length [(bx, .cells lx.toArray ex frx)] := by
        rcases RoSl.drop (f := Jb.l) (cap := cq) (fun _ => rfl) h9 1 hj0 with h | h
        · exact h
        · simp at h h10; omega
      have hq10 : jl.length ≤ cq - 1 := by simp at h10; omega
      have hat : ∀ L, At D L bx (.cells lx.toArray ex frx) := fun L => .inr (h11 _ (by simp))
      obtain ⟨jid, jop, jpg, joff, jlen, ja, jc, jxs⟩ := j
      have hjd : (tjs.headD noJob) = (jid, ⟨jop, jpg, joff, jlen, jxs⟩) := by rw [← h8]; rfl
      have htj : tjs.tail = jl.map Jb.j := by rw [← h8]; rfl
      rw [hjd, htj] at htl
      simp only at htl
      have g0 : lx[ox + 0 * 6 + 0]? = some (.int .i64 jid) := hld 0 (by decide)
      have g1 : lx[ox + 0 * 6 + 1]? = some (.int .i64 jop) := hld 1 (by decide)
      repeat (first | refine gx ?_ | refine gN fun _ => ?_ | refine gB fun _ => ?_ | fail)
      refine W.drawH tab_ok 14 [.b false, .b false, .b false, .b false, .b false, .b false, .b false, .b false, .b false, .b false, .b false, .b false, .b false, .f] [] follows (by decide +kernel) (by decide +kernel) rfl (by decide) rfl ?_
      intro _
      refine dG ?_
      repeat (first | refine dL ?_ | refine dS ?_ | (first | refine dGo ?_ | refine dSk ?_ | refine dUn ?_ | fail) | (first | refine dPT ?_ | refine dPF ?_ | fail) | refine dV (OpVal.add rfl rfl (i64_in _ (by omega))) ?_ | refine dV (OpVal.sub rfl rfl (i64_in _ (by omega))) ?_ | refine dV (OpVal.neBool tab_ok rfl rfl rfl) ?_ | refine dV (OpVal.eqBool tab_ok rfl rfl rfl) ?_ | refine dV (OpVal.eqNil tab_ok rfl rfl rfl) ?_ | refine dV (OpVal.neNil tab_ok rfl rfl rfl) ?_ | fail)
      refine dV (OpVal.ixSl (j := 0) tab_ok rfl rfl rfl rfl rfl hj0) ?_
      refine dV (OpVal.load tab_ok rfl (show At _ _ bx (.cells lx.toArray ex frx) from .inr (List.mem_append_right _ (h11 _ (by simp)))) g0) ?_
      repeat (first | refine dL ?_ | refine dS ?_ | (first | refine dGo ?_ | refine dSk ?_ | refine dUn ?_ | fail) | (first | refine dPT ?_ | refine dPF ?_ | fail) | refine dV (OpVal.add rfl rfl (i64_in _ (by omega))) ?_ | refine dV (OpVal.sub rfl rfl (i64_in _ (by omega))) ?_ | refine dV (OpVal.neBool tab_ok rfl rfl rfl) ?_ | refine dV (OpVal.eqBool tab_ok rfl rfl rfl) ?_ | refine dV (OpVal.eqNil tab_ok rfl rfl rfl) ?_ | refine dV (OpVal.neNil tab_ok rfl rfl rfl) ?_ | fail)
      refine dV (OpVal.build (ps := [_, _, _, _, _]) tab_ok rfl rfl rfl rfl (by repeat (first | exact trivial | refine ⟨⟨_, _, _, rfl, rfl, rfl⟩, ?_⟩)) rfl) ?_
      refine WD.float tab_ok rfl rfl (lb rfl) (dG ?_)
      refine WD.nil ?_
      intro _ _ _ e; cases e
      refine aG ?_
      have hrs : ∀ (rr : Rs) (a' : Option Addr) (c' : Nat) (H' : HL), Own 11 144 ([] ++ tout.flatMap Rs.d ++ rr.d) a' (0 + tout.length + 1) c' H' → RoSl 11 ((tout ++ [rr]).flatMap Rs.d) a' (tout ++ [rr]).length H' := by
        intro rr a' c' H' ho
        have h := Own.roSl ho
        rw [List.flatMap_append, List.flatMap_singleton, List.length_append, List.length_singleton]
        simpa using h
      rcases Classical.em (jop = 8) with h8' | h8'
      case' inl => rw [if_pos h8'] at htl
      case' inr => rw [if_neg h8'] at htl
      all_goals
        subst htl
        repeat (first | refine gx ?_ | refine gN fun _ => ?_ | refine gB fun _ => ?_ | fail)
        refine aV (OpVal.ixSl (j := 0) tab_ok rfl rfl rfl rfl rfl hj0) ?_
        refine aV (OpVal.load tab_ok rfl (hat _) g1) ?_
        repeat (first | refine gh h8' ?_ | refine gN fun _ => ?_ | refine gB fun _ => ?_ | fail)
        refine aV (OpVal.back tab_ok rfl rfl rfl rfl rfl hj0 h10) ?_
        repeat (first | refine gx ?_ | refine gN fun _ => ?_ | refine gB fun _ => ?_ | fail)
        refine W.nilChunk ?_
        refine aPr (appRo (cs := []) tab_ok rfl rfl rfl (Own.nil 11 144) (fun _ h => by cases h) rfl h13 (fun q hq => .inr (h14 q hq)) (rsd_one _) (by omega) (by omega)) ?_
        rintro _ _ ⟨a1, c1, H1, rfl, rfl, how⟩
        refine aG ?_
        repeat (first | refine gx ?_ | refine gN fun _ => ?_ | refine gB fun _ => ?_ | fail)
        refine aSl (ps := [_]) ?_
        intro bt
        refine aG ?_
        refine aAp (how) ?_
        rintro _ _ ⟨a9, c9, H9, rfl, rfl, ho⟩
        refine aG ?_
        repeat (first | refine gx ?_ | refine gN fun _ => ?_ | refine gB fun _ => ?_ | fail)
        refine W.ret (fin _ _ (FinOk.first 1 (aRc .nil) rfl ?_))
        refine ⟨H9, _, rfl, rfl, a, c, r, at_, ct, rt, ag, cg, rg, _, cq - 1, [(bx, .cells lx.toArray ex frx)], jl, a9, c9, H9, ?_, h1, h2, h3, h4, fun q hq => List.mem_append_right _ (h5 q hq), fun q hq => List.mem_append_right _ (h6 q hq), fun q hq => List.mem_append_right _ (h7 q hq), rfl, hb9, hq10, fun q hq => List.mem_append_right _ (h11 q hq), fun j hj => (h12 j (List.mem_cons_of_mem _ hj)).imp fun r h => ⟨h.1, fun q hq => List.mem_append_right _ (h.2 q hq)⟩, hrs _ _ _ _ ho, fun q hq => List.mem_append_left _ hq⟩
        simp only [List.length_append, List.length_singleton, Nat.zero_add]
        rfl
theorem seg_in' {l vs : List Value} {o m : Nat} (h : seg? l o m = some vs) (p k : Nat) (hp : p + k ≤ m) : seg? l (o + p) k = some ((vs.drop p).take k) := by
  obtain ⟨h1, h2⟩ := seg?_eq _ _ _ h
  rw [seg?_of _ _ _ (by omega), h2, List.drop_take, List.drop_drop, List.take_take, Nat.min_eq_left (by omega)]
def zT : List Value := [.slice none 0 0, .int .i64 0, .int .i64 0, .int .i64 0, .slice none 0 0, .int .i64 0, .slice none 0 0, .int .i64 0, .int .i64 0, .slice none 0 0, .int .i64 0, .int .u64 0, .int .u64 0, .int .u64 0, .int .u64 0, .int .u64 0, .int .u64 0, .slice none 0 0]
theorem RRun_spec (d : Nat) (t : Tn) (hi : TInv d t) (hid : t.ids ≤ 1000000) (l : List Value) (D : HL) (hd : DocT d t l D) (tick : Int) :
    Ctr Tryz.prog 71 [.agg l.toArray, .int .i64 tick] [] D (fun v L' => ∃ H l', v = .agg (List.toArray l') ∧ L' = [H] ∧ DocT d (t.go tick) l' (H ++ D)) := by
  generalize hres : t.go tick = res
  have hdd := hd
  obtain ⟨a, c, r, at_, ct, rt, ag, cg, rg, aq, cq, rq, jl, ao, co, ro, rfl, -⟩ := hd
  refine Ctr.enter (n := 36) [.cell 4 43] [(0, _), (1, _)] Tryz.func71 rfl rfl rfl (lb rfl) Tryz.call71 ⟨rfl, rfl, trivial⟩ ?_
  intro cx fin fin0
  refine aG ?_
  repeat (first | refine gx ?_ | refine gN fun _ => ?_ | refine gB fun _ => ?_ | fail)
  rename_i b2 b4
  refine W.nilChunk ?_
  refine aLp (fun k ρ1 L1 => ∃ (t' : Tn) (l' : List Value) (H : HL), TInv d t' ∧ t'.ids ≤ 1000000 ∧ res = t'.go tick ∧ DocT d t' l' (H ++ D) ∧ k = tM t' ∧ ρ1 = [(1, .int .i64 tick), (2, .pointer (some ⟨b2, 0, none⟩)), (4, .pointer (some ⟨b4, 0, none⟩))] ∧ L1 = [H, [(b2, Obj.cells l'.toArray 43 (0, 0))], [(b4, Obj.cells zT.toArray 43 (0, 0))]]) (o := ⟨t, _, [], hi, hid, hres.symm, hdd, rfl, rfl, rfl⟩) (h := ?_)
  clear hdd hi hid hres t
  rintro k ρ1 L1 ⟨t, l, H, hi, hid, rfl, hdd, rfl, rfl, rfl⟩
  have hd := hdd
  obtain ⟨a, c, r, at_, ct, rt, ag, cg, rg, aq, cq, rq, jl, ao, co, ro, rfl, h1, h2, h3, h4, h5, h6, h7, h8, h9, h10, h11, h12, h13, h14⟩ := hd
  have hjl : jl.length = t.js.length := by rw [← h8, List.length_map]
  refine aG ?_
  repeat (first | refine gx ?_ | refine gN fun _ => ?_ | refine gB fun _ => ?_ | fail)
  by_cases hc : t.m.todo = [] ∧ t.js ≠ []
  case' neg =>
    have hz : ((t.m.todo.length : Nat) : Int) ≠ 0 ∨ (((t.m.todo.length : Nat) : Int) = 0 ∧ ¬ ((jl.length : Nat) : Int) > 0) := by
      by_cases h0 : t.m.todo = []
      · right
        have : t.js = [] := Decidable.byContradiction fun h => hc ⟨h0, h⟩
        rw [this] at hjl
        exact ⟨by rw [h0]; rfl, by rw [hjl]; decide⟩
      · left
        have := List.length_pos_iff.2 h0; omega
    have hq : t.m.todo ≠ [] ∨ t.js = [] := by
      by_cases h0 : t.m.todo = []
      · exact .inr (Decidable.byContradiction fun h => hc ⟨h0, h⟩)
      · exact .inl h0
    rcases hz with hz | ⟨hz1, hz2⟩
    case' inl =>
      repeat (first | refine gh hz ?_ | refine gN fun _ => ?_ | refine gB fun _ => ?_ | fail)
    case' inr =>
      repeat (first | refine gh (gc2 hz1 hz2) ?_ | refine gN fun _ => ?_ | refine gB fun _ => ?_ | fail)
    all_goals
      refine W.ret (fin _ _ (FinOk.first 1 (aRc .nil) rfl ?_))
      rw [go_quiet hq]
      exact ⟨_, _, rfl, rfl, hdd⟩
  obtain ⟨h0, hne⟩ := hc
  have hz1 : ((t.m.todo.length : Nat) : Int) = 0 := by rw [h0]; rfl
  have hz2 : ((jl.length : Nat) : Int) > 0 := by have := List.length_pos_iff.2 hne; omega
  have hj0 : 0 < jl.length := by omega
  cases jl with
  | nil => exact absurd hj0 (Nat.lt_irrefl 0)
  | cons j jl =>
    obtain ⟨bx, ox, lx, ex, frx, rfl, rfl, hsg, -⟩ := RoSl.at (f := Jb.l) (m := 6) (fun _ => rfl) h9 hj0
    have hhd : t.js.headD noJob = j.j := by rw [← h8]; rfl
    have hJ := hi.jok _ (head_mem hne)
    rw [hhd] at hJ
    obtain ⟨rj, hrj, hsub⟩ := h12 j (by simp)
    have hbi := begun_inv hi h0 hne tick
    have hbm := tM_begun h0 hne tick
    have hbd := begun_ids t tick
    rw [go_begun h0 hne tick]
    have hdn := begin_done (p := t.p) h0 j.j.2
    have hbg : t.begun tick = ({ t with m := (mBegin t.m t.p j.j.2).1, p := (mBegin t.m t.p j.j.2).2.1 } : Tn).tell (mBegin t.m t.p j.j.2).2.2 tick := by unfold Tn.begun; rw [hhd]
    have hB := RBegin_spec t.m t.p hi.mi.inv (.agg #[.slice a t.p.fs.length c, .int .i64 t.p.hand, .int .i64 t.m.op, .int .i64 t.m.page, .slice at_ t.m.todo.length ct, .int .i64 t.m.to, .slice ag t.m.got.length cg]) (H ++ D) ⟨a, c, r, at_, ct, rt, ag, cg, rg, rfl, h1, h2, h3, h4, h5, h6, h7⟩ j.j.2 hJ.ok.op.1 hJ.ok.op.2 hJ.ok.off hJ.ok.len (fun _ => hJ.ok.page) j.a j.cap (by have := hJ.dl; omega) rj hrj
    have hsb : ∀ q ∈ (H ++ D) ++ rj, q ∈ H ∨ q ∈ D := fun q hq => List.mem_append.1 ((List.mem_append.1 hq).elim id (hsub q))
    have hsgq := seg_in' hsg 1 5 (by decide)
    have hout : t.out.length ≤ 1000000 := by have := hi.ids; omega
    have hT : ∀ (l' : List Value) (D' : HL), DocT d ({ t with m := (mBegin t.m t.p j.j.2).1, p := (mBegin t.m t.p j.j.2).2.1 } : Tn) l' D' → Ctr Tryz.prog 73 [.agg l'.toArray, (mBegin t.m t.p j.j.2).2.2.d, .int .i64 tick] [] D' (fun v L' => ∃ H l', v = .agg (List.toArray l') ∧ L' = [H] ∧ DocT d (t.begun tick) l' (H ++ D')) := fun l' D' h => by
      rw [hbg]
      exact RTell_spec d _ l' D' h _ (fun _ => hne) hi.cok hdn.1 tick hout
    generalize t.begun tick = t2 at *
    generalize mBegin t.m t.p j.j.2 = mb at *
    repeat (first | refine gh (gc2 hz1 hz2) ?_ | refine gN fun _ => ?_ | refine gB fun _ => ?_ | fail)
    refine W.drawG tab_ok 13 15 [.b false, .b false, .b false, .b false, .b false, .b false, .b false, .b true, .b false, .b false, .b false, .f, .f] [.b true, .b true] [] follows (by decide) rfl (by decide +kernel) (by decide +kernel) (by decide) (by decide +kernel) rfl (by decide) rfl ?_
    intro _
    refine dG ?_
    repeat (first | refine dL ?_ | refine dS ?_ | (first | refine dGo ?_ | refine dSk ?_ | refine dUn ?_ | fail) | (first | refine dPT ?_ | refine dPF ?_ | fail) | refine dV (OpVal.add rfl rfl (i64_in _ (by omega))) ?_ | refine dV (OpVal.sub rfl rfl (i64_in _ (by omega))) ?_ | refine dV (OpVal.neBool tab_ok rfl rfl rfl) ?_ | refine dV (OpVal.eqBool tab_ok rfl rfl rfl) ?_ | refine dV (OpVal.eqNil tab_ok rfl rfl rfl) ?_ | refine dV (OpVal.neNil tab_ok rfl rfl rfl) ?_ | fail)
    refine dV (OpVal.ixSl (j := 0) tab_ok rfl rfl rfl rfl rfl hj0) ?_
    refine dV (OpVal.loadN ty_48.1 ty_48.2 rfl (show At _ _ bx (.cells lx.toArray ex frx) from (List.mem_append.1 (h11 _ (List.mem_singleton.2 rfl))).elim (fun h => .inr (by simp [h])) (fun h => .inr (by simp [h]))) hsgq) ?_
    refine dC (o := hB) (h := ?_) (hro := RoIn.all (fun q hq => (hsb q hq).elim (fun h => by simp [h]) (fun h => by simp [h])))
    rintro _ _ ⟨H2, v1, rfl, rfl, a2, c2, r2, at2, ct2, rt2, ag2, cg2, rg2, rfl, k1, k2, k3, k4, k5, k6, k7⟩
    refine dG ?_
    rw [show mb.2.2.d = .agg (List.toArray [.bool mb.2.2.done, .int .i64 mb.2.2.errno, .bool mb.2.2.hit, .string (bstr mb.2.2.data), .int .u64 mb.2.2.add.h, .int .u64 mb.2.2.add.m, .int .u64 mb.2.2.add.e, .int .u64 mb.2.2.add.r, .int .u64 mb.2.2.add.w, .int .u64 mb.2.2.add.f]) from rfl]
    repeat (first | refine dL ?_ | refine dS ?_ | (first | refine dGo ?_ | refine dSk ?_ | refine dUn ?_ | fail) | (first | refine dPT ?_ | refine dPF ?_ | fail) | refine dV (OpVal.add rfl rfl (i64_in _ (by omega))) ?_ | refine dV (OpVal.sub rfl rfl (i64_in _ (by omega))) ?_ | refine dV (OpVal.neBool tab_ok rfl rfl rfl) ?_ | refine dV (OpVal.eqBool tab_ok rfl rfl rfl) ?_ | refine dV (OpVal.eqNil tab_ok rfl rfl rfl) ?_ | refine dV (OpVal.neNil tab_ok rfl rfl rfl) ?_ | fail)
    refine WD.float tab_ok rfl rfl (lb rfl) (dG ?_)
    refine WD.float tab_ok rfl rfl (lb rfl) (dG ?_)
    refine WD.nil ?_
    intro _ _ _ e; cases e
    intro _ _ _ e; cases e
    refine dG ?_
    refine dSb 0 ?_
    repeat (first | refine dL ?_ | refine dS ?_ | (first | refine dGo ?_ | refine dSk ?_ | refine dUn ?_ | fail) | (first | refine dPT ?_ | refine dPF ?_ | fail) | refine dV (OpVal.add rfl rfl (i64_in _ (by omega))) ?_ | refine dV (OpVal.sub rfl rfl (i64_in _ (by omega))) ?_ | refine dV (OpVal.neBool tab_ok rfl rfl rfl) ?_ | refine dV (OpVal.eqBool tab_ok rfl rfl rfl) ?_ | refine dV (OpVal.eqNil tab_ok rfl rfl rfl) ?_ | refine dV (OpVal.neNil tab_ok rfl rfl rfl) ?_ | fail)
    refine WD.nil (W.dropNil (aG ?_))
    repeat (first | refine gx ?_ | refine gN fun _ => ?_ | refine gB fun _ => ?_ | fail)
    have hd2 : DocT d ({ t with m := mb.1, p := mb.2.1 } : Tn) [.slice a2 mb.2.1.fs.length c2, .int .i64 mb.2.1.hand, .int .i64 mb.1.op, .int .i64 mb.1.page, .slice at2 mb.1.todo.length ct2, .int .i64 mb.1.to, .slice ag2 mb.1.got.length cg2, .int .i64 (d : Int), .int .i64 t.pages, .slice (some ⟨bx, ox, none⟩) (j :: jl).length cq, .int .i64 t.ids,
        .int .u64 t.c.h, .int .u64 t.c.m, .int .u64 t.c.e, .int .u64 t.c.r, .int .u64 t.c.w, .int .u64 t.c.f, .slice ao t.out.length co] (H2 ++ (H ++ D)) :=
      ⟨a2, c2, r2, at2, ct2, rt2, ag2, cg2, rg2, some ⟨bx, ox, none⟩, cq, _, j :: jl, ao, co, ro, rfl, k1, k2, k3, k4, k5, k6, k7, h8, h9, h10, fun q hq => List.mem_append_right _ (h11 q hq), fun j hj => (h12 j hj).imp fun r h => ⟨h.1, fun q hq => List.mem_append_right _ (h.2 q hq)⟩, h13, fun q hq => List.mem_append_right _ (h14 q hq)⟩
    refine aC (o := hT _ _ hd2) (h := ?_) (hro := RoIn.append (RoIn.own 2 rfl) (RoIn.append (RoIn.own 3 rfl) RoIn.same))
    rintro _ _ ⟨H3, l3, rfl, rfl, hd3⟩
    refine aG ?_
    have hd4 := hd3
    obtain ⟨a3, c3, r3, at3, ct3, rt3, ag3, cg3, rg3, aq3, cq3, rq3, jl3, ao3, co3, ro3, rfl, -⟩ := hd3
    repeat (first | refine gx ?_ | refine gN fun _ => ?_ | refine gB fun _ => ?_ | fail)
    refine W.groupV [0, 2, 2] rfl ?_
    refine W.order [0, 2, 2] rfl ?_
    refine aR (o := ⟨tM t2, hbm, t2, _, H3 ++ (H2 ++ H), hbi, by omega, rfl, hd4.mono (fun q hq => by simpa using hq), rfl, rfl, rfl⟩)
end Go.Proofs.YtfajcpnbhnddbaaGreat
namespace Go.Proofs.YtfajcpnbhnddbaaGreat
open Go Go.Sl Go.IntWalk
set_option maxHeartbeats 8000000
set_option maxRecDepth 20000
set_option linter.unusedVariables false
theorem RSubmit_spec (d : Nat) (t : Tn) (hi : TInv d t) (hid : t.ids < 1000000) (l : List Value) (D : HL) (hd : DocT d t l D) (q : Rq) (hoi : i64s q.off) (hq : rcheck q t.pages = 0 → JOk q) (aq : Option Addr) (cq : Nat) (rq : HL) (hrq : RoSl 1 (u8s q.data) aq q.data.length rq) (hrs : ∀ p ∈ rq, p ∈ D) (tick : Int) :
    Ctr Tryz.prog 46 [.agg l.toArray, q.v aq cq, .int .i64 tick] [] D (fun v L' => ∃ H l', v = .tuple #[.agg (List.toArray l'), .int .i64 (t.submit d q tick).2.1, .int .i64 (t.submit d q tick).2.2] ∧ L' = [H] ∧ DocT d (t.submit d q tick).1 l' (H ++ D)) := by
  have hC := RCheck_spec q t.pages aq cq hoi
  have hput := fun h hd => put_inv hi (hq h) hd
  have hids := hi.ids
  have hsub : t.submit d q tick = t.submit d q tick := rfl
  conv at hsub => rhs; unfold Tn.submit
  generalize t.submit d q tick = out at *
  have hdd := hd
  obtain ⟨a, c, r, at_, ct, rt, ag, cg, rg, aj, cj, rj, jl, ao, co, ro, rfl, h1, h2, h3, h4, h5, h6, h7, h8, h9, h10, h11, h12, h13, h14⟩ := hd
  have hjl : jl.length = t.js.length := by rw [← h8, List.length_map]
  obtain ⟨qo, qp, qf, ql, qd⟩ := q
  simp only [Rq.v] at hC ⊢
  generalize rcheck ⟨qo, qp, qf, ql, qd⟩ t.pages = rc at *
  refine Ctr.enter (n := 48) [.cell 6 43, .tmp 7, .tmp 8] [(0, _), (1, _), (2, _)] Tryz.func46 rfl rfl rfl (lb rfl) Tryz.call46 ⟨rfl, rfl, rfl, trivial⟩ ?_
  intro cx fin fin0
  refine aG ?_
  repeat (first | refine gx ?_ | refine gN fun _ => ?_ | refine gB fun _ => ?_ | fail)
  rename_i b3 b4 b6
  refine aC (o := hC) (h := ?_)
  rintro _ _ ⟨rfl, rfl⟩
  refine aG ?_
  rcases Classical.em (rc = 0) with h0 | h0
  case' inr =>
    rw [if_pos h0] at hsub
    subst hsub
    repeat (first | refine gh h0 ?_ | refine gN fun _ => ?_ | refine gB fun _ => ?_ | fail)
    refine W.nilChunk ?_
    refine W.ret (fin _ _ (FinOk.first 1 (aRc (.tmp rfl (.tmp rfl .nil))) rfl ?_))
    exact ⟨[], _, rfl, rfl, hdd⟩
  rw [if_neg (fun h => h h0)] at hsub
  rcases Classical.em (d ≤ t.js.length) with hf | hf
  case' inl =>
    rw [if_pos hf] at hsub
    subst hsub
    have hz : ((jl.length : Nat) : Int) ≥ (d : Int) := by omega
    repeat (first | refine gh (gc2 h0 hz) ?_ | refine gN fun _ => ?_ | refine gB fun _ => ?_ | fail)
    refine W.nilChunk ?_
    refine W.ret (fin _ _ (FinOk.first 1 (aRc (.tmp rfl (.tmp rfl .nil))) rfl ?_))
    exact ⟨[], _, rfl, rfl, hdd⟩
  rw [if_neg hf] at hsub
  subst hsub
  have hz : ¬ ((jl.length : Nat) : Int) ≥ (d : Int) := by omega
  have hsm : jl.length ≤ 1000000 := by omega
  repeat (first | refine gh (gc2 h0 hz) ?_ | refine gN fun _ => ?_ | refine gB fun _ => ?_ | fail)
  refine W.nilChunk ?_
  refine aPr (appRo (cs := []) tab_ok rfl rfl rfl (Own.nil 6 147) (fun _ h => by cases h) rfl h9 (fun q hq => .inr (h11 q hq)) (jbl_one _) (by omega) (by omega)) ?_
  rintro _ _ ⟨a1, c1, H1, rfl, rfl, how⟩
  refine aG ?_
  repeat (first | refine gx ?_ | refine gN fun _ => ?_ | refine gB fun _ => ?_ | fail)
  refine aBu (ps := [_, _]) ?_
  refine aSl (ps := [_]) ?_
  intro bt
  refine aG ?_
  refine aAp (how) ?_
  rintro _ _ ⟨a9, c9, H9, rfl, rfl, ho⟩
  refine aG ?_
  repeat (first | refine gx ?_ | refine gN fun _ => ?_ | refine gB fun _ => ?_ | fail)
  have el : (jl ++ [(⟨t.ids + 1, qo, qp, qf, ql, aq, cq, qd⟩ : Jb)]).length = 0 + jl.length + 1 := by simp
  have hd1 : DocT d ({ t with js := t.js ++ [(t.ids + 1, ⟨qo, qp, qf, ql, qd⟩)], ids := t.ids + 1 } : Tn) [.slice a t.p.fs.length c, .int .i64 t.p.hand, .int .i64 t.m.op, .int .i64 t.m.page, .slice at_ t.m.todo.length ct, .int .i64 t.m.to, .slice ag t.m.got.length cg, .int .i64 (d : Int), .int .i64 t.pages, .slice a9 (0 + jl.length + 1) c9, .int .i64 (t.ids + 1),
      .int .u64 t.c.h, .int .u64 t.c.m, .int .u64 t.c.e, .int .u64 t.c.r, .int .u64 t.c.w, .int .u64 t.c.f, .slice ao t.out.length co] (H9 ++ D) := by
    refine ⟨a, c, r, at_, ct, rt, ag, cg, rg, a9, c9, H9, jl ++ [⟨t.ids + 1, qo, qp, qf, ql, aq, cq, qd⟩], ao, co, ro, by rw [el], h1, h2, h3, h4, fun q hq => List.mem_append_right _ (h5 q hq), fun q hq => List.mem_append_right _ (h6 q hq), fun q hq => List.mem_append_right _ (h7 q hq), by rw [List.map_append, h8]; rfl, ?_, by rw [el]; exact ho.cap_le, fun q hq => List.mem_append_left _ hq, fun j hj => ?_, h13, fun q hq => List.mem_append_right _ (h14 q hq)⟩
    · have h := Own.roSl ho
      rw [el, List.flatMap_append, List.flatMap_singleton]
      exact h
    · rcases List.mem_append.1 hj with hj | hj
      · exact (h12 j hj).imp fun r h => ⟨h.1, fun q hq => List.mem_append_right _ (h.2 q hq)⟩
      · rw [List.mem_singleton.1 hj]
        exact ⟨rq, hrq, fun q hq => List.mem_append_right _ (hrs q hq)⟩
  have hR := RRun_spec d _ (hput h0 hf) (by show t.ids + 1 ≤ 1000000; omega) _ _ hd1 tick
  generalize ({ t with js := t.js ++ [(t.ids + 1, ⟨qo, qp, qf, ql, qd⟩)], ids := t.ids + 1 } : Tn).go tick = t2 at *
  refine aC (o := hR) (h := ?_) (hro := RoIn.append (RoIn.own 0 rfl) RoIn.same)
  rintro _ _ ⟨H3, l3, rfl, rfl, hd3⟩
  refine aG ?_
  have hd4 := hd3
  obtain ⟨a3, c3, r3, at3, ct3, rt3, ag3, cg3, rg3, aq3, cq3, rq3, jl3, ao3, co3, ro3, rfl, -⟩ := hd3
  repeat (first | refine gx ?_ | refine gN fun _ => ?_ | refine gB fun _ => ?_ | fail)
  refine W.groupV [0, 0] rfl ?_
  refine W.ret (fin _ _ (FinOk.first 1 (aRc (.tmp rfl (.tmp rfl .nil))) rfl ?_))
  exact ⟨_, _, rfl, rfl, hd4.mono (fun q hq => by simpa using hq)⟩
theorem ROver_spec (d : Nat) (t : Tn) (hi : TInv d t) (hid : t.ids ≤ 1000000) (hb : t.m.todo ≠ []) (l : List Value) (D : HL) (hd : DocT d t l D) (e : Int) (bs : List Int) (hu : u8ok bs) (hl : bs.length = 16) (ab : Option Addr) (cb : Nat) (rb : HL) (hrb : RoSl 1 (u8s bs) ab bs.length rb) (hrs : ∀ p ∈ rb, p ∈ D) (tick : Int) :
    Ctr Tryz.prog 47 [.agg l.toArray, .int .i64 e, .slice ab bs.length cb, .int .i64 tick] [] D (fun v L' => ∃ H l', v = .agg (List.toArray l') ∧ L' = [H] ∧ DocT d (t.over e bs tick) l' (H ++ D)) := by
  have hne := hi.bz hb
  have hde := end_done t.m t.p e bs
  have hT1 := tell_inv hi hne (end_invE hi.mi hb e (bs := bs) (fun _ => ⟨hu, hl⟩)) hde.1 hde.2.1 tick
  have hide := tell_ids ({ t with m := (mEnd t.m t.p e bs).1, p := (mEnd t.m t.p e bs).2.1 } : Tn) (mEnd t.m t.p e bs).2.2 tick
  obtain ⟨a, c, r, at_, ct, rt, ag, cg, rg, aj, cj, rj, jl, ao, co, ro, rfl, h1, h2, h3, h4, h5, h6, h7, h8, h9, h10, h11, h12, h13, h14⟩ := hd
  have hE : Ctr Tryz.prog 72 [.agg #[.slice a t.p.fs.length c, .int .i64 t.p.hand, .int .i64 t.m.op, .int .i64 t.m.page, .slice at_ t.m.todo.length ct, .int .i64 t.m.to, .slice ag t.m.got.length cg], .int .i64 e, .slice ab bs.length cb] [] D (DocOut (mEnd t.m t.p e bs) D) := by
    have hdm : DocM t.m t.p (.agg #[.slice a t.p.fs.length c, .int .i64 t.p.hand, .int .i64 t.m.op, .int .i64 t.m.page, .slice at_ t.m.todo.length ct, .int .i64 t.m.to, .slice ag t.m.got.length cg]) D := ⟨a, c, r, at_, ct, rt, ag, cg, rg, rfl, h1, h2, h3, h4, h5, h6, h7⟩
    rcases Classical.em (e = 0) with h0 | h0
    · subst h0
      exact (REnd_ok t.m hb t.p hi.mi.inv _ D hdm bs ab cb rb hrb (got_len hi.mi hl) (end_sto hi.mi hb) (mStep_inv hi.mi hb hu hl).1 (end_load_inv hi.mi hb hu hl _ _)).ro (fun x hx => (List.mem_append.1 hx).elim id (hrs x))
    · exact REnd_err t.m t.p _ D hdm e h0 bs ab cb
  have hout : t.out.length ≤ 1000000 := by have := hi.ids; omega
  have hT := fun l' D' h => RTell_spec d ({ t with m := (mEnd t.m t.p e bs).1, p := (mEnd t.m t.p e bs).2.1 } : Tn) l' D' h (mEnd t.m t.p e bs).2.2 (fun _ => hne) hi.cok hde.1 tick hout
  unfold Tn.over
  generalize ({ t with m := (mEnd t.m t.p e bs).1, p := (mEnd t.m t.p e bs).2.1 } : Tn).tell (mEnd t.m t.p e bs).2.2 tick = t2 at *
  simp only at hide
  generalize mEnd t.m t.p e bs = mb at *
  have hR := fun l' D' h => RRun_spec d t2 hT1 (by omega) l' D' h tick
  generalize t2.go tick = t3 at *
  refine Ctr.enter (n := 28) [.cell 8 43] [(0, _), (1, _), (2, _), (3, _)] Tryz.func47 rfl rfl rfl (lb rfl) Tryz.call47 ⟨rfl, rfl, rfl, rfl, trivial⟩ ?_
  intro cx fin fin0
  refine aG ?_
  repeat (first | refine gx ?_ | refine gN fun _ => ?_ | refine gB fun _ => ?_ | fail)
  rename_i b4 b8
  refine aC (o := hE) (h := ?_) (hro := RoIn.same)
  rintro _ _ ⟨H2, v1, rfl, rfl, a2, c2, r2, at2, ct2, rt2, ag2, cg2, rg2, rfl, k1, k2, k3, k4, k5, k6, k7⟩
  refine aG ?_
  rw [show mb.2.2.d = .agg (List.toArray [.bool mb.2.2.done, .int .i64 mb.2.2.errno, .bool mb.2.2.hit, .string (bstr mb.2.2.data), .int .u64 mb.2.2.add.h, .int .u64 mb.2.2.add.m, .int .u64 mb.2.2.add.e, .int .u64 mb.2.2.add.r, .int .u64 mb.2.2.add.w, .int .u64 mb.2.2.add.f]) from rfl]
  repeat (first | refine gx ?_ | refine gN fun _ => ?_ | refine gB fun _ => ?_ | fail)
  have hd2 : DocT d ({ t with m := mb.1, p := mb.2.1 } : Tn) [.slice a2 mb.2.1.fs.length c2, .int .i64 mb.2.1.hand, .int .i64 mb.1.op, .int .i64 mb.1.page, .slice at2 mb.1.todo.length ct2, .int .i64 mb.1.to, .slice ag2 mb.1.got.length cg2, .int .i64 (d : Int), .int .i64 t.pages, .slice aj jl.length cj, .int .i64 t.ids,
      .int .u64 t.c.h, .int .u64 t.c.m, .int .u64 t.c.e, .int .u64 t.c.r, .int .u64 t.c.w, .int .u64 t.c.f, .slice ao t.out.length co] (H2 ++ D) :=
    ⟨a2, c2, r2, at2, ct2, rt2, ag2, cg2, rg2, aj, cj, rj, jl, ao, co, ro, rfl, k1, k2, k3, k4, k5, k6, k7, h8, h9, h10, fun q hq => List.mem_append_right _ (h11 q hq), fun j hj => (h12 j hj).imp fun r h => ⟨h.1, fun q hq => List.mem_append_right _ (h.2 q hq)⟩, h13, fun q hq => List.mem_append_right _ (h14 q hq)⟩
  refine aC (o := hT _ _ hd2) (h := ?_) (hro := RoIn.append (RoIn.own 2 rfl) RoIn.same)
  rintro _ _ ⟨H3, l3, rfl, rfl, hd3⟩
  refine aG ?_
  have hd4 := hd3
  obtain ⟨a3, c3, r3, at3, ct3, rt3, ag3, cg3, rg3, aq3, cq3, rq3, jl3, ao3, co3, ro3, rfl, -⟩ := hd3
  repeat (first | refine gx ?_ | refine gN fun _ => ?_ | refine gB fun _ => ?_ | fail)
  refine aC (o := hR _ _ hd4) (h := ?_) (hro := RoIn.append (RoIn.own 0 rfl) (RoIn.append (RoIn.own 3 rfl) RoIn.same))
  rintro _ _ ⟨H5, l5, rfl, rfl, hd5⟩
  refine aG ?_
  have hd6 := hd5
  obtain ⟨a5, c5, r5, at5, ct5, rt5, ag5, cg5, rg5, aq5, cq5, rq5, jl5, ao5, co5, ro5, rfl, -⟩ := hd5
  repeat (first | refine gx ?_ | refine gN fun _ => ?_ | refine gB fun _ => ?_ | fail)
  refine W.groupV [0, 0, 2] rfl ?_
  refine W.ret (fin _ _ (FinOk.first 1 (aRc .nil) rfl ?_))
  exact ⟨_, _, rfl, rfl, hd6.mono (fun q hq => by simpa using hq)⟩
end Go.Proofs.YtfajcpnbhnddbaaGreat
namespace Go.Proofs.YtfajcpnbhnddbaaGreat
open Go Go.Sl Go.IntWalk
set_option maxHeartbeats 8000000
set_option maxRecDepth 20000
set_option linter.unusedVariables false
theorem RCrash_spec (d : Nat) (t : Tn) (h64 : t.p.fs.length ≤ 64) (l : List Value) (D : HL) (hd : DocT d t l D) :
    Ctr Tryz.prog 18 [.agg l.toArray] [] D (fun v L' => ∃ H l', v = .agg (List.toArray l') ∧ L' = [H] ∧ DocT d t.crash l' (H ++ D)) := by
  have hN := RNew_spec t.p.fs.length h64
  obtain ⟨a, c, r, at_, ct, rt, ag, cg, rg, aj, cj, rj, jl, ao, co, ro, rfl, h1, h2, h3, h4, h5, h6, h7, h8, h9, h10, h11, h12, h13, h14⟩ := hd
  refine Ctr.enter (n := 15) [.cell 2 43] [(0, _)] Tryz.func18 rfl rfl rfl (lb rfl) Tryz.call18 ⟨rfl, trivial⟩ ?_
  intro cx fin fin0
  refine aG ?_
  repeat (first | refine gx ?_ | refine gN fun _ => ?_ | refine gB fun _ => ?_ | fail)
  refine aC (o := hN) (h := ?_)
  rintro _ _ ⟨H, rfl, a2, c2, r2, rfl, hro, hsub⟩
  refine aG ?_
  refine aBu (ps := [_]) ?_
  repeat (first | refine gx ?_ | refine gN fun _ => ?_ | refine gB fun _ => ?_ | fail)
  refine aBu (ps := []) ?_
  repeat (first | refine gx ?_ | refine gN fun _ => ?_ | refine gB fun _ => ?_ | fail)
  refine W.ret (fin _ _ (FinOk.first 1 (aRc .nil) rfl ?_))
  exact ⟨H, _, rfl, rfl, a2, c2, r2, none, 0, [], none, 0, [], none, 0, [], [], ao, co, ro, rfl, hro, ⟨rfl, .inl ⟨rfl, rfl⟩⟩, ⟨rfl, .inl ⟨rfl, rfl⟩⟩, Nat.le_refl _, fun q hq => List.mem_append_left _ (hsub q hq), (fun _ h => by cases h), (fun _ h => by cases h), rfl, ⟨rfl, .inl ⟨rfl, rfl⟩⟩, Nat.le_refl _, (fun _ h => by cases h), (fun _ h => by cases h), h13, fun q hq => List.mem_append_right _ (h14 q hq)⟩
theorem Of_spec (o : Ro) (ro : HL) (hro : RoSl 1 (u8s o.r.data) o.a o.n ro) : Ctr Tryz.prog 69 [.agg o.l.toArray] [] ro (fun v L' => v = .agg o.r.d.toArray ∧ L' = []) := by
  obtain ⟨⟨i1, i2, i3, i4, i5, ⟨c1, c2, c3, c4, c5, c6⟩⟩, a, n, c⟩ := o
  simp only at hro
  simp only [Ro.l, Rs.d]
  refine Ctr.enter (n := 17) [.cell 2 144] [(0, _)] Tryz.func69 rfl rfl rfl (lb rfl) Tryz.call69 ⟨rfl, trivial⟩ ?_
  intro cx fin fin0
  refine aG ?_
  repeat (first | refine gx ?_ | refine gN fun _ => ?_ | refine gB fun _ => ?_ | fail)
  refine aV (OpVal.bytesStr tab_ok rfl rfl rfl rfl hro (fun q hq => .inr hq)) ?_
  repeat (first | refine gx ?_ | refine gN fun _ => ?_ | refine gB fun _ => ?_ | fail)
  refine aBu (ps := [_, _, _, _, _, _]) ?_
  repeat (first | refine gx ?_ | refine gN fun _ => ?_ | refine gB fun _ => ?_ | fail)
  refine W.ret (fin _ _ (FinOk.first 0 (aRc .nil) rfl ?_))
  exact ⟨rfl, rfl⟩
theorem c6_eqd (c : C6) : ∃ b, EqD Tryz.prog 2 40 (.agg c.l.toArray) (.agg c.l.toArray) b ∧ b = true :=
  ⟨_, EqD.struct (P := Tryz.prog) (k := 1) (fs := Tryz.prog.fieldsOf 40) (by kernel_rfl) (by kernel_rfl)
    (FEqs.of_sig (sig := [(false, 38, 0), (false, 38, 1), (false, 38, 2), (false, 38, 3), (false, 38, 4), (false, 38, 5)]) (by kernel_rfl)
      ⟨_, _, rfl, rfl, FEqT.one ty_38.1 rfl rfl (EqD.int Tryz.underlying38), _, _, rfl, rfl, FEqT.one ty_38.1 rfl rfl (EqD.int Tryz.underlying38), _, _, rfl, rfl, FEqT.one ty_38.1 rfl rfl (EqD.int Tryz.underlying38),
        _, _, rfl, rfl, FEqT.one ty_38.1 rfl rfl (EqD.int Tryz.underlying38), _, _, rfl, rfl, FEqT.one ty_38.1 rfl rfl (EqD.int Tryz.underlying38), _, _, rfl, rfl, FEqT.one ty_38.1 rfl rfl (EqD.int Tryz.underlying38), rfl⟩), by simp [allB]⟩
theorem r_eqd (z : Rs) : ∃ b, EqD Tryz.prog 3 144 (.agg z.d.toArray) (.agg z.d.toArray) b ∧ b = true := by
  obtain ⟨bc, hc, rfl⟩ := c6_eqd z.c
  exact ⟨_, EqD.struct (P := Tryz.prog) (k := 2) (fs := Tryz.prog.fieldsOf 144) (by kernel_rfl) (by kernel_rfl)
    (FEqs.of_sig (sig := [(false, 3, 0), (false, 26, 1), (false, 4, 2), (false, 3, 3), (false, 9, 4), (false, 40, 5)]) (by kernel_rfl)
      ⟨_, _, rfl, rfl, FEqT.one ty_3.1 rfl rfl ((EqD.int Tryz.underlying3).more (by decide)), _, _, rfl, rfl, FEqT.one ty_26.1 rfl rfl ((EqD.int Tryz.underlying26).more (by decide)), _, _, rfl, rfl, FEqT.one ty_4.1 rfl rfl ((EqD.bool Tryz.underlying4).more (by decide)),
        _, _, rfl, rfl, FEqT.one ty_3.1 rfl rfl ((EqD.int Tryz.underlying3).more (by decide)), _, _, rfl, rfl, FEqT.one ty_9.1 rfl rfl ((EqD.str Tryz.underlying9).more (by decide)), _, _, rfl, rfl, FEqT.agg (m := 6) ty_40.1 ty_40.2 rfl rfl hc, rfl⟩), by simp [allB]⟩
theorem r_guard : Tryz.prog.eqGuardType Tryz.prog.depth 144 = false := by kernel_rfl
theorem neR {n : Nat} {R : HL} {cx : Cx} {ρ : Env} {L : List HL} {ty t' : Nat} {x y : Operand} (z : Rs) (hx : ev? ρ x = some (.agg z.d.toArray)) (hy : ev? ρ y = some (.agg z.d.toArray)) :
    OpVal Tryz.prog n R cx (.binOp .neq 144 x y t') ty ρ L (.bool false) := by
  obtain ⟨b, h, rfl⟩ := r_eqd z
  exact OpVal.neD (k := 3) hx hy h (by decide) r_guard
theorem RsSame_spec (los : List Ro) (out : List Rs) (ho : los.map Ro.r = out) (hl : los.length ≤ 1000000) (a : Option Addr) (c : Nat) (r1 : HL) (h1 : RoSl 11 (los.flatMap Ro.l) a los.length r1) (b : Option Addr) (cb : Nat) (r2 : HL) (h2 : RoSl 11 (out.flatMap Rs.d) b out.length r2)
    (D : HL) (hd : ∀ o ∈ los, ∃ r, RoSl 1 (u8s o.r.data) o.a o.n r ∧ o.r.data.length = o.n ∧ ∀ q ∈ r, q ∈ D) :
    Ctr Tryz.prog 41 [.slice a los.length c, .slice b out.length cb] [] (r1 ++ (r2 ++ D)) (fun v L' => v = .bool true ∧ L' = []) := by
  have hlen : los.length = out.length := by rw [← ho, List.length_map]
  have hle : ((los.length : Nat) : Int) = ((out.length : Nat) : Int) := by omega
  refine Ctr.enter (n := 27) [.tmp 4] [(0, _), (1, _)] Tryz.func41 rfl rfl rfl (lb rfl) Tryz.call41 ⟨rfl, rfl, trivial⟩ ?_
  intro cx fin fin0
  refine aG ?_
  repeat (first | refine gh hle ?_ | refine gN fun _ => ?_ | refine gB fun _ => ?_ | fail)
  refine aLp (fun k ρ1 L1 => ∃ i : Nat, i ≤ los.length ∧ k = los.length - i ∧ ρ1 = [(5, .int .i64 (i : Int)), (0, .slice a los.length c), (1, .slice b out.length cb)] ∧ L1 = []) (o := ⟨0, Nat.zero_le _, rfl, rfl, rfl⟩) (h := ?_)
  rintro k ρ1 L1 ⟨i, hi, rfl, rfl, rfl⟩
  refine aG ?_
  rcases Classical.em ((i : Int) < ((los.length : Nat) : Int)) with hlt | hlt
  case' inr =>
    repeat (first | refine gh hlt ?_ | refine gN fun _ => ?_ | refine gB fun _ => ?_ | fail)
    refine W.ret (fin _ _ (FinOk.first 0 (.tmp rfl .nil) rfl ?_))
    exact ⟨rfl, rfl⟩
  have hil : i < los.length := by omega
  have hil2 : i < out.length := by omega
  obtain ⟨bx, ox, lx, ex, frx, rfl, rfl, hsx, -⟩ := RoSl.at (f := Ro.l) (m := 11) (fun _ => rfl) h1 hil
  obtain ⟨by_, oy, ly, ey, fry, rfl, rfl, hsy, -⟩ := RoSl.at (f := Rs.d) (m := 11) (fun _ => rfl) h2 hil2
  obtain ⟨rd, hrd, hrn, hsub⟩ := hd _ (List.getElem_mem hil)
  have he : out[i] = los[i].r := by subst ho; simp
  rw [he] at hsy
  have hOf := Of_spec los[i] rd hrd
  generalize los[i] = o at *
  repeat (first | refine gh hlt ?_ | refine gN fun _ => ?_ | refine gB fun _ => ?_ | fail)
  refine W.draw follows (by decide +kernel) (zG ?_)
  repeat (first | refine zL ?_ | (first | refine zGo ?_ | refine zSk ?_ | refine zUn ?_ | fail) | (first | refine zPT ?_ | refine zPF ?_ | fail) | refine zV (OpVal.add rfl rfl (i64_in _ (by omega))) ?_ | refine zV (OpVal.sub rfl rfl (i64_in _ (by omega))) ?_ | refine zV (OpVal.neBool tab_ok rfl rfl rfl) ?_ | refine zV (OpVal.eqBool tab_ok rfl rfl rfl) ?_ | refine zV (OpVal.eqNil tab_ok rfl rfl rfl) ?_ | refine zV (OpVal.neNil tab_ok rfl rfl rfl) ?_ | fail)
  refine zV (OpVal.ixSl tab_ok rfl rfl rfl rfl rfl hil) ?_
  refine zV (OpVal.loadN ty_60.1 ty_60.2 rfl (show At _ _ bx (.cells lx.toArray ex frx) from .inr (by simp)) hsx) ?_
  refine zC (o := hOf) (h := ?_) (hro := RoIn.all (fun q hq => by simp [hsub q hq]))
  repeat (first | refine zL ?_ | (first | refine zGo ?_ | refine zSk ?_ | refine zUn ?_ | fail) | (first | refine zPT ?_ | refine zPF ?_ | fail) | refine zV (OpVal.add rfl rfl (i64_in _ (by omega))) ?_ | refine zV (OpVal.sub rfl rfl (i64_in _ (by omega))) ?_ | refine zV (OpVal.neBool tab_ok rfl rfl rfl) ?_ | refine zV (OpVal.eqBool tab_ok rfl rfl rfl) ?_ | refine zV (OpVal.eqNil tab_ok rfl rfl rfl) ?_ | refine zV (OpVal.neNil tab_ok rfl rfl rfl) ?_ | fail)
  refine zV (OpVal.ixSl tab_ok rfl rfl rfl rfl rfl hil2) ?_
  refine zV (OpVal.loadN ty_144.1 ty_144.2 rfl (show At _ _ by_ (.cells ly.toArray ey fry) from .inr (by simp)) hsy) ?_
  refine zV (neR o.r rfl rfl) ?_
  refine WZ.nil (aG ?_)
  repeat (first | refine gx ?_ | refine gN fun _ => ?_ | refine gB fun _ => ?_ | fail)
  refine aR (o := ⟨los.length - (i + 1), by omega, i + 1, by omega, rfl, rfl, rfl⟩)
end Go.Proofs.YtfajcpnbhnddbaaGreat
namespace Go.Proofs.YtfajcpnbhnddbaaGreat
open Go Go.Sl Go.IntWalk
set_option maxHeartbeats 8000000
set_option maxRecDepth 20000
set_option linter.unusedVariables false
theorem repJ (m : Nat) : allOne (repL m Jb.zero.l) = true := allOne_of fun v hv => by
  induction m with
  | zero => cases hv
  | succ m ih =>
    have : repL (m + 1) Jb.zero.l = Jb.zero.l ++ repL m Jb.zero.l := rfl
    rw [this] at hv
    rcases List.mem_append.1 hv with h | h
    · simp only [Jb.l, List.mem_cons, List.not_mem_nil, or_false] at h
      rcases h with rfl | rfl | rfl | rfl | rfl | rfl <;> rfl
    · exact ih h
theorem QClear_spec (m : Nat) (js : List Jb) (b : Nat) (H : HL) (h : QAt m js b H) : Ctr Tryz.prog 45 [.pointer (some ⟨b, 0, none⟩)] [H] [] (fun _ L' => ∃ H', L' = [H'] ∧ QAt m [] b H') := by
  obtain ⟨lx, at_, br, h1, h2, h3, h4, h5, h6, rfl⟩ := h
  refine Ctr.enter (n := 12) [] [(0, _)] Tryz.func45 rfl rfl rfl (lb rfl) Tryz.call45 ⟨rfl, trivial⟩ ?_
  intro cx fin fin0
  refine aG ?_
  refine spl2 rfl ?_
  refine aG ?_
  repeat (first | refine gx ?_ | refine gN fun _ => ?_ | refine gB fun _ => ?_ | fail)
  refine aPu (clearSl (b := br) (m := 6) (ex := 80) (l := lx) (zs := Jb.zero.l) (z := .agg Jb.zero.l.toArray) tab_ok rfl rfl rfl rfl (by decide) rfl (by simp) (repJ m) (by omega) (by omega)) ?_
  rintro _ _ rfl
  refine aG ?_
  repeat (first | refine gx ?_ | refine gN fun _ => ?_ | refine gB fun _ => ?_ | fail)
  refine W.groupV [1, 0] rfl ?_
  refine fin0 _ _ (FinOk.first 1 .nil rfl ?_)
  refine ⟨_, rfl, _, 0, br, ?_, h2, h3, Nat.zero_le _, h2, (by intro i hi; simp at hi), rfl⟩
  rw [List.length_append, List.length_append, List.length_drop, repL_len]
  simp only [List.take_zero, List.length_nil]
  show 0 + m * 6 + (lx.length - (0 + m * 6)) = m * 6
  omega
theorem TCrash_spec (d : Nat) (t : Tn) (hi : TInv d t) (b bp : Nat) (H : HL) (ht : TAt d t b bp H) (Hp : HL) (hp : PtAt t.p bp Hp) :
    Ctr Tryz.prog 19 [.pointer (some ⟨b, 0, none⟩)] [H, Hp] [] (fun _ L' => ∃ H' Hp', L' = [H', Hp'] ∧ TAt d t.crash b bp H' ∧ PtAt t.crash.p bp Hp') := by
  obtain ⟨bm, bq, ao, co, ls, los, Hm, Hq, Ho, D, rfl, hm, hqa, hls, hown, hlo, hlj, hll⟩ := ht
  have hS := Stop_spec t.m bm bp Hm hm
  have hC := Clear_spec t.p hi.mi.inv.ok bp Hp hp
  have hQ := QClear_spec d ls bq Hq hqa
  refine Ctr.enter (n := 21) [] [(0, _)] Tryz.func19 rfl rfl rfl (lb rfl) Tryz.call19 ⟨rfl, trivial⟩ ?_
  intro cx fin fin0
  refine aG ?_
  refine spl5 rfl ?_
  refine aG ?_
  repeat (first | refine gx ?_ | refine gN fun _ => ?_ | refine gB fun _ => ?_ | fail)
  refine aC (o := hS) (h := ?_)
  rintro _ _ ⟨Hm2, rfl, hm2⟩
  refine aG ?_
  repeat (first | refine gx ?_ | refine gN fun _ => ?_ | refine gB fun _ => ?_ | fail)
  refine aC (o := hC) (h := ?_)
  rintro _ _ ⟨Hp2, rfl, hp2⟩
  refine aG ?_
  repeat (first | refine gx ?_ | refine gN fun _ => ?_ | refine gB fun _ => ?_ | fail)
  refine aC (o := hQ) (h := ?_)
  rintro _ _ ⟨Hq2, rfl, hq2⟩
  refine aG ?_
  repeat (first | refine gx ?_ | refine gN fun _ => ?_ | refine gB fun _ => ?_ | fail)
  refine aBu (ps := []) ?_
  repeat (first | refine gx ?_ | refine gN fun _ => ?_ | refine gB fun _ => ?_ | fail)
  refine W.groupV [3, 2, 0, 1, 1] rfl ?_
  refine fin0 _ _ (FinOk.first 2 .nil rfl ?_)
  exact ⟨_, _, rfl, ⟨bm, bq, ao, co, [], los, Hm2, Hq2, Ho, D, rfl, hm2, hq2, rfl, hown, hlo, fun _ h => (by cases h), hll⟩, hp2⟩
theorem VSubmit_spec (d : Nat) (t : Tn) (hi : TInv d t) (hid : t.ids < 1000000) (tick : Int) (b bt bp : Nat) (Hw Ht Hp : HL) (hv : VAt d t tick b bt bp Hw Ht Hp) (q : Rq) (hu : u8ok q.data) (hl : q.data.length ≤ 1000000) (hoi : i64s q.off) (hop : i64s q.op) (aq : Option Addr) (cq : Nat) (rq : HL) (hrq : RoSl 1 (u8s q.data) aq q.data.length rq) :
    Ctr Tryz.prog 22 [.pointer (some ⟨b, 0, none⟩), q.v aq cq] [Hw, Ht, Hp, rq] [] (fun v L' => ∃ Hw' Ht' Hp', v = .bool true ∧ L' = [Hw', Ht', Hp'] ∧ VAt d (t.submit d q tick).1 tick b bt bp Hw' Ht' Hp') := by
  obtain ⟨l, D, rfl, hdoc, ht, hp⟩ := hv
  have hS := Submit_spec d t hi hid bt bp Ht ht Hp hp q hu hl hoi hop (fun h => check_ok h hu) aq cq rq hrq tick
  have hR := RSubmit_spec d t hi hid l (D ++ rq) (hdoc.mono fun q hq => List.mem_append_left _ hq) q hoi (fun h => check_ok h hu) aq cq rq hrq (fun p hp => List.mem_append_right _ hp) tick
  obtain ⟨a, c, r, at_, ct, rt, ag, cg, rg, aj, cj, rj, jl, ao, co, ro, rfl, -⟩ := hdoc
  obtain ⟨qo, qp, qf, ql, qd⟩ := q
  simp only [Rq.v] at hS hR ⊢
  generalize t.submit d ⟨qo, qp, qf, ql, qd⟩ tick = s at *
  obtain ⟨t2, id, e⟩ := s
  simp only at hS hR ⊢
  refine Ctr.enter (n := 49) [.tmp 4] [(0, _), (1, _)] Tryz.func22 rfl rfl rfl (lb rfl) Tryz.call22 ⟨rfl, rfl, trivial⟩ ?_
  intro cx fin fin0
  refine aG ?_
  refine spl2 rfl ?_
  refine aG ?_
  repeat (first | refine gx ?_ | refine gN fun _ => ?_ | refine gB fun _ => ?_ | fail)
  refine W.drawG tab_ok 15 18 [.b false, .b false, .b false, .b false, .b false, .b false, .b false, .b false, .b false, .b true, .b false, .b false, .b false, .b false, .f] [.b true, .b false, .b false] [] follows (by decide) rfl (by decide +kernel) (by decide +kernel) (by decide) (by decide +kernel) rfl (by decide) rfl ?_
  intro _
  refine dG ?_
  repeat (first | refine dL ?_ | refine dS ?_ | (first | refine dGo ?_ | refine dSk ?_ | refine dUn ?_ | fail) | (first | refine dPT ?_ | refine dPF ?_ | fail) | refine dV (OpVal.add rfl rfl (i64_in _ (by omega))) ?_ | refine dV (OpVal.sub rfl rfl (i64_in _ (by omega))) ?_ | refine dV (OpVal.neBool tab_ok rfl rfl rfl) ?_ | refine dV (OpVal.eqBool tab_ok rfl rfl rfl) ?_ | refine dV (OpVal.eqNil tab_ok rfl rfl rfl) ?_ | refine dV (OpVal.neNil tab_ok rfl rfl rfl) ?_ | fail)
  refine dC (o := hR) (h := ?_) (hro := RoIn.all (fun q hq => by simp at hq; rcases hq with h | h <;> simp [h]))
  rintro _ _ ⟨H2, l2, rfl, rfl, hd2⟩
  refine dG ?_
  have hd3 := hd2
  obtain ⟨a2, c2, r2, at2, ct2, rt2, ag2, cg2, rg2, aj2, cj2, rj2, jl2, ao2, co2, ro2, rfl, -⟩ := hd2
  repeat (first | refine dL ?_ | refine dS ?_ | (first | refine dGo ?_ | refine dSk ?_ | refine dUn ?_ | fail) | (first | refine dPT ?_ | refine dPF ?_ | fail) | refine dV (OpVal.add rfl rfl (i64_in _ (by omega))) ?_ | refine dV (OpVal.sub rfl rfl (i64_in _ (by omega))) ?_ | refine dV (OpVal.neBool tab_ok rfl rfl rfl) ?_ | refine dV (OpVal.eqBool tab_ok rfl rfl rfl) ?_ | refine dV (OpVal.eqNil tab_ok rfl rfl rfl) ?_ | refine dV (OpVal.neNil tab_ok rfl rfl rfl) ?_ | fail)
  refine WD.float tab_ok rfl rfl (lb rfl) (dG ?_)
  refine WD.nil ?_
  intro _ _ _ e; cases e
  refine dG ?_
  repeat (first | refine dL ?_ | refine dS ?_ | (first | refine dGo ?_ | refine dSk ?_ | refine dUn ?_ | fail) | (first | refine dPT ?_ | refine dPF ?_ | fail) | refine dV (OpVal.add rfl rfl (i64_in _ (by omega))) ?_ | refine dV (OpVal.sub rfl rfl (i64_in _ (by omega))) ?_ | refine dV (OpVal.neBool tab_ok rfl rfl rfl) ?_ | refine dV (OpVal.eqBool tab_ok rfl rfl rfl) ?_ | refine dV (OpVal.eqNil tab_ok rfl rfl rfl) ?_ | refine dV (OpVal.neNil tab_ok rfl rfl rfl) ?_ | fail)
  refine WD.nil (W.dropNil (aG ?_))
  repeat (first | refine gx ?_ | refine gN fun _ => ?_ | refine gB fun _ => ?_ | fail)
  refine W.drawH tab_ok 15 [.b false, .b false, .b false, .b false, .b false, .b false, .b false, .b false, .b false, .b true, .b false, .b false, .b false, .b false, .b false] [5,6] follows (by decide +kernel) (by decide +kernel) rfl (by decide) rfl ?_
  intro _
  refine dG ?_
  repeat (first | refine dL ?_ | refine dS ?_ | (first | refine dGo ?_ | refine dSk ?_ | refine dUn ?_ | fail) | (first | refine dPT ?_ | refine dPF ?_ | fail) | refine dV (OpVal.add rfl rfl (i64_in _ (by omega))) ?_ | refine dV (OpVal.sub rfl rfl (i64_in _ (by omega))) ?_ | refine dV (OpVal.neBool tab_ok rfl rfl rfl) ?_ | refine dV (OpVal.eqBool tab_ok rfl rfl rfl) ?_ | refine dV (OpVal.eqNil tab_ok rfl rfl rfl) ?_ | refine dV (OpVal.neNil tab_ok rfl rfl rfl) ?_ | fail)
  refine dC (o := hS) (h := ?_) (hro := RoIn.all (fun q hq => by simp [hq]))
  rintro _ _ ⟨Ht2, Hp2, rfl, rfl, ht2, hp2⟩
  refine dG ?_
  repeat (first | refine dL ?_ | refine dS ?_ | (first | refine dGo ?_ | refine dSk ?_ | refine dUn ?_ | fail) | (first | refine dPT ?_ | refine dPF ?_ | fail) | refine dV (OpVal.add rfl rfl (i64_in _ (by omega))) ?_ | refine dV (OpVal.sub rfl rfl (i64_in _ (by omega))) ?_ | refine dV (OpVal.neBool tab_ok rfl rfl rfl) ?_ | refine dV (OpVal.eqBool tab_ok rfl rfl rfl) ?_ | refine dV (OpVal.eqNil tab_ok rfl rfl rfl) ?_ | refine dV (OpVal.neNil tab_ok rfl rfl rfl) ?_ | fail)
  refine WD.nil (W.dropNil (aG ?_))
  repeat (first | refine gx ?_ | refine gN fun _ => ?_ | refine gB fun _ => ?_ | fail)
  refine W.groupV [5, 3, 4, 4] rfl ?_
  refine W.ret (fin _ _ (FinOk.first 3 (.tmp rfl .nil) rfl ?_))
  exact ⟨_, _, _, by simp [pack], rfl, _, _, rfl, hd3, ht2, hp2⟩
def vOver (t : Tn) (bad : Bool) (bs : List Int) (tick : Int) : Tn := if t.m.todo = [] then t else t.over (if bad = true then 9 else 0) (fill bs 16) tick
theorem VOver_spec (d : Nat) (t : Tn) (hi : TInv d t) (hid : t.ids ≤ 1000000) (tick : Int) (htk : 0 ≤ tick ∧ tick ≤ 1000000) (b bt bp : Nat) (Hw Ht Hp : HL) (hv : VAt d t tick b bt bp Hw Ht Hp) (bad : Bool) (bs : List Int) (hu : u8ok bs) (ab : Option Addr) (cb : Nat) (rb : HL) (hrb : RoSl 1 (u8s bs) ab bs.length rb) :
    Ctr Tryz.prog 23 [.pointer (some ⟨b, 0, none⟩), .bool bad, .slice ab bs.length cb] [Hw, Ht, Hp] rb (fun v L' => ∃ Hw' Ht' Hp', v = .bool true ∧ L' = [Hw', Ht', Hp'] ∧ VAt d (vOver t bad bs (tick + 1)) (tick + 1) b bt bp Hw' Ht' Hp') := by
  obtain ⟨l, D, rfl, hdoc, ht, hp⟩ := hv
  obtain ⟨bm, rest, Hm, hin, hm, hsubm⟩ := ht.mach
  have hU := Busy_spec _ bm bp Hm hm
  have hF := Fill_spec bs ab cb rb hrb 16 (by decide) (by decide)
  have hfl : (fill bs 16).length = 16 := fill_len _ _
  have hfu := fill_ok hu 16
  have hd0 := hdoc
  obtain ⟨a, c, r, at_, ct, rt, ag, cg, rg, aj, cj, rj, jl, ao, co, ro, rfl, -⟩ := hdoc
  rw [show (16 : Int).toNat = 16 from rfl] at hF
  refine Ctr.enter (n := 82) [.tmp 6] [(0, _), (1, _), (2, _)] Tryz.func23 rfl rfl rfl (lb rfl) Tryz.call23 ⟨rfl, rfl, rfl, trivial⟩ ?_
  intro cx fin fin0
  refine aG ?_
  refine spl2 rfl ?_
  refine aG ?_
  repeat (first | refine gx ?_ | refine gN fun _ => ?_ | refine gB fun _ => ?_ | fail)
  refine aV (OpVal.load tab_ok rfl (at_in 2 rfl hin) rfl) ?_
  refine aC (o := hU) (h := ?_) (hro := (fun q hq => RoIn.own 2 rfl q (hsubm q hq)))
  rintro _ _ ⟨rfl, rfl⟩
  refine aG ?_
  rcases Classical.em (t.m.todo = []) with h0 | h0
  case' inl =>
    have hz : ¬ 0 < ((t.m.todo.length : Nat) : Int) := by rw [h0]; decide
    have hz2 : ((t.m.todo.length : Nat) : Int) = 0 := by rw [h0]; rfl
    repeat (first | refine gh (gc2 hz hz2) ?_ | refine gN fun _ => ?_ | refine gB fun _ => ?_ | fail)
    refine aV (OpVal.load tab_ok rfl (at_in 2 rfl hin) rfl) ?_
    refine aC (o := hU) (h := ?_) (hro := (fun q hq => RoIn.own 2 rfl q (hsubm q hq)))
    rintro _ _ ⟨rfl, rfl⟩
    refine aG ?_
    repeat (first | refine gh (gc2 hz hz2) ?_ | refine gN fun _ => ?_ | refine gB fun _ => ?_ | fail)
    refine W.groupV [0, 0] rfl ?_
    refine W.ret (fin _ _ (FinOk.first 3 (.tmp rfl .nil) rfl ?_))
    unfold vOver
    rw [if_pos h0]
    exact ⟨_, _, _, by simp [pack, hz2], rfl, _, _, rfl, hd0, ht, hp⟩
  have hz : 0 < ((t.m.todo.length : Nat) : Int) := by have := List.length_pos_iff.2 h0; omega
  have hz2 : ¬ ((t.m.todo.length : Nat) : Int) = 0 := by omega
  have hvo : vOver t bad bs (tick + 1) = t.over (if bad = true then 9 else 0) (fill bs 16) (tick + 1) := by unfold vOver; rw [if_neg h0]
  have hO := fun e af cf Hf hof => Over_spec d t hi hid h0 bt bp Ht ht Hp hp e (fill bs 16) (fun _ => ⟨hfu, hfl⟩) af cf Hf hof (tick + 1)
  have hR := fun e af cf Hf hof => ROver_spec d t hi hid h0 _ (D ++ Hf) (hd0.mono fun q hq => List.mem_append_left _ hq) e (fill bs 16) hfu hfl af cf Hf hof (fun p hp => List.mem_append_right _ hp) (tick + 1)
  generalize fill bs 16 = fb at *
  rw [hfl] at hO hR
  repeat (first | refine gh (gc2 hz hz2) ?_ | refine gN fun _ => ?_ | refine gB fun _ => ?_ | fail)
  cases bad
  case' false =>
    rw [if_neg (by simp)] at hvo
    repeat (first | refine gx ?_ | refine gN fun _ => ?_ | refine gB fun _ => ?_ | fail)
    have hO2 := hO 0
    have hR2 := hR 0
  case' true =>
    rw [if_pos rfl] at hvo
    repeat (first | refine gx ?_ | refine gN fun _ => ?_ | refine gB fun _ => ?_ | fail)
    have hO2 := hO 9
    have hR2 := hR 9
  all_goals
    rw [← hvo] at hO2 hR2
    generalize vOver t _ bs (tick + 1) = t2 at *
    refine aC (o := hF) (h := ?_) (hro := RoIn.same)
    rintro _ _ ⟨af, cf, Hf, rfl, rfl, hof⟩
    refine aG ?_
    repeat (first | refine gx ?_ | refine gN fun _ => ?_ | refine gB fun _ => ?_ | fail)
    refine W.drawH tab_ok 12 [.b false, .b false, .b false, .b false, .b false, .b false, .b false, .b false, .b false, .b false, .b false, .b true] [] follows (by decide +kernel) (by decide +kernel) rfl (by decide) rfl ?_
    intro _
    refine dG ?_
    repeat (first | refine dL ?_ | refine dS ?_ | (first | refine dGo ?_ | refine dSk ?_ | refine dUn ?_ | fail) | (first | refine dPT ?_ | refine dPF ?_ | fail) | refine dV (OpVal.add rfl rfl (i64_in _ (by omega))) ?_ | refine dV (OpVal.sub rfl rfl (i64_in _ (by omega))) ?_ | refine dV (OpVal.neBool tab_ok rfl rfl rfl) ?_ | refine dV (OpVal.eqBool tab_ok rfl rfl rfl) ?_ | refine dV (OpVal.eqNil tab_ok rfl rfl rfl) ?_ | refine dV (OpVal.neNil tab_ok rfl rfl rfl) ?_ | fail)
    refine dC (o := hR2 af cf Hf (by have := Own.roSl hof; exact this)) (h := ?_) (hro := RoIn.all (fun q hq => by simp at hq; rcases hq with h | h <;> simp [h]))
    rintro _ _ ⟨H2, l2, rfl, rfl, hd2⟩
    refine dG ?_
    refine WD.nil (W.dropNil (aG ?_))
    have hd3 := hd2
    obtain ⟨a2, c2, r2, at2, ct2, rt2, ag2, cg2, rg2, aj2, cj2, rj2, jl2, ao2, co2, ro2, rfl, -⟩ := hd2
    repeat (first | refine gx ?_ | refine gN fun _ => ?_ | refine gB fun _ => ?_ | fail)
    refine W.drawH tab_ok 11 [.b false, .b false, .b false, .b false, .b false, .b false, .b false, .b false, .b false, .b false, .b true] [4,5] follows (by decide +kernel) (by decide +kernel) rfl (by decide) rfl ?_
    intro _
    refine dG ?_
    repeat (first | refine dL ?_ | refine dS ?_ | (first | refine dGo ?_ | refine dSk ?_ | refine dUn ?_ | fail) | (first | refine dPT ?_ | refine dPF ?_ | fail) | refine dV (OpVal.add rfl rfl (i64_in _ (by omega))) ?_ | refine dV (OpVal.sub rfl rfl (i64_in _ (by omega))) ?_ | refine dV (OpVal.neBool tab_ok rfl rfl rfl) ?_ | refine dV (OpVal.eqBool tab_ok rfl rfl rfl) ?_ | refine dV (OpVal.eqNil tab_ok rfl rfl rfl) ?_ | refine dV (OpVal.neNil tab_ok rfl rfl rfl) ?_ | fail)
    refine dC (o := hO2 af cf Hf (by have := Own.roSl hof; exact this)) (h := ?_) (hro := RoIn.all (fun q hq => by simp [hq]))
    rintro _ _ ⟨Ht2, Hp2, rfl, ht2, hp2⟩
    refine dG ?_
    refine WD.nil (W.dropNil (aG ?_))
    repeat (first | refine gx ?_ | refine gN fun _ => ?_ | refine gB fun _ => ?_ | fail)
    refine W.groupV [4, 2, 3, 2] rfl ?_
    refine W.ret (fin _ _ (FinOk.first 3 (.tmp rfl .nil) rfl ?_))
    exact ⟨_, _, _, rfl, rfl, _, _, rfl, hd3, ht2, hp2⟩
theorem VOut_spec (d : Nat) (t : Tn) (hlen : t.out.length ≤ 1000000) (tick : Int) (b bt bp : Nat) (Hw Ht Hp : HL) (hv : VAt d t tick b bt bp Hw Ht Hp) :
    Ctr Tryz.prog 17 [.pointer (some ⟨b, 0, none⟩)] [Hw, Ht, Hp] [] (fun v L' => ∃ Hw' Ht' Hp', v = .bool true ∧ L' = [Hw', Ht', Hp'] ∧ VAt d t.taken tick b bt bp Hw' Ht' Hp') := by
  obtain ⟨l, D, rfl, hdoc, ht, hp⟩ := hv
  have hO := Out_spec d t bt bp Ht ht
  have hd0 := hdoc
  obtain ⟨a, c, r, at_, ct, rt, ag, cg, rg, aj, cj, rj, jl, ao, co, ro, rfl, h1, h2, h3, h4, h5, h6, h7, h8, h9, h10, h11, h12, h13, h14⟩ := hdoc
  refine Ctr.enter (n := 20) [.tmp 2] [(0, _)] Tryz.func17 rfl rfl rfl (lb rfl) Tryz.call17 ⟨rfl, trivial⟩ ?_
  intro cx fin fin0
  refine aG ?_
  refine spl2 rfl ?_
  refine aG ?_
  repeat (first | refine gx ?_ | refine gN fun _ => ?_ | refine gB fun _ => ?_ | fail)
  refine W.drawH tab_ok 12 [.b false, .b false, .b false, .b false, .b true, .b false, .b false, .b false, .b false, .b false, .b true, .b false] [2] follows (by decide +kernel) (by decide +kernel) rfl (by decide) rfl ?_
  intro _
  refine dG ?_
  repeat (first | refine dL ?_ | refine dS ?_ | (first | refine dGo ?_ | refine dSk ?_ | refine dUn ?_ | fail) | (first | refine dPT ?_ | refine dPF ?_ | fail) | refine dV (OpVal.add rfl rfl (i64_in _ (by omega))) ?_ | refine dV (OpVal.sub rfl rfl (i64_in _ (by omega))) ?_ | refine dV (OpVal.neBool tab_ok rfl rfl rfl) ?_ | refine dV (OpVal.eqBool tab_ok rfl rfl rfl) ?_ | refine dV (OpVal.eqNil tab_ok rfl rfl rfl) ?_ | refine dV (OpVal.neNil tab_ok rfl rfl rfl) ?_ | fail)
  refine dC (o := hO) (h := ?_)
  rintro _ _ ⟨los, ap, cp, Ht2, Ho, D2, rfl, rfl, ht2, hlo, hro, hsub, hll⟩
  refine dG ?_
  have hll2 : los.length ≤ 1000000 := by rw [← hlo, List.length_map] at hlen; exact hlen
  have hS := RsSame_spec los t.out hlo hll2 ap cp Ho hro ao co ro h13 D2 hll
  repeat (first | refine dL ?_ | refine dS ?_ | (first | refine dGo ?_ | refine dSk ?_ | refine dUn ?_ | fail) | (first | refine dPT ?_ | refine dPF ?_ | fail) | refine dV (OpVal.add rfl rfl (i64_in _ (by omega))) ?_ | refine dV (OpVal.sub rfl rfl (i64_in _ (by omega))) ?_ | refine dV (OpVal.neBool tab_ok rfl rfl rfl) ?_ | refine dV (OpVal.eqBool tab_ok rfl rfl rfl) ?_ | refine dV (OpVal.eqNil tab_ok rfl rfl rfl) ?_ | refine dV (OpVal.neNil tab_ok rfl rfl rfl) ?_ | fail)
  refine dC (o := hS) (h := ?_) (hro := (fun q hq => (List.mem_append.1 hq).elim (fun h => .inl (by simp [h])) (fun h => (List.mem_append.1 h).elim (fun h => .inr (by simp [h14 q h])) (fun h => .inl (by simp [hsub q h])))))
  rintro _ _ ⟨rfl, rfl⟩
  refine dG ?_
  repeat (first | refine dL ?_ | refine dS ?_ | (first | refine dGo ?_ | refine dSk ?_ | refine dUn ?_ | fail) | (first | refine dPT ?_ | refine dPF ?_ | fail) | refine dV (OpVal.add rfl rfl (i64_in _ (by omega))) ?_ | refine dV (OpVal.sub rfl rfl (i64_in _ (by omega))) ?_ | refine dV (OpVal.neBool tab_ok rfl rfl rfl) ?_ | refine dV (OpVal.eqBool tab_ok rfl rfl rfl) ?_ | refine dV (OpVal.eqNil tab_ok rfl rfl rfl) ?_ | refine dV (OpVal.neNil tab_ok rfl rfl rfl) ?_ | fail)
  refine WD.nil (W.dropNil (aG ?_))
  repeat (first | refine gx ?_ | refine gN fun _ => ?_ | refine gB fun _ => ?_ | fail)
  refine W.groupV [2, 2] rfl ?_
  refine W.order [0, 0, 1] rfl ?_
  refine W.ret (fin _ _ (FinOk.first 3 (.tmp rfl .nil) rfl ?_))
  exact ⟨_, _, _, rfl, rfl, _, _, rfl, ⟨a, c, r, at_, ct, rt, ag, cg, rg, aj, cj, rj, jl, none, 0, [], rfl, h1, h2, h3, h4, h5, h6, h7, h8, h9, h10, h11, h12, ⟨rfl, .inl ⟨rfl, rfl⟩⟩, (fun _ h => by cases h)⟩, ht2, hp⟩
end Go.Proofs.YtfajcpnbhnddbaaGreat
namespace Go.Proofs.YtfajcpnbhnddbaaGreat
open Go Go.Sl Go.IntWalk
set_option maxHeartbeats 8000000
set_option maxRecDepth 20000
theorem REmptyP_spec (p : Pt) (hi : p.Inv) (v : Value) (D : HL) (hd : DocIn p.fs p.hand v D) : Ctr Tryz.prog 40 [v] [] D (fun v L' => v = .bool p.empty ∧ L' = []) := by
  have h64 := hi.ok.2.2
  obtain ⟨a, cap, ro, rfl, hro, hsub⟩ := hd
  refine Ctr.enter (n := 18) [.tmp 2] [(0, _)] Tryz.func40 rfl rfl rfl (lb rfl) Tryz.call40 ⟨rfl, trivial⟩ ?_
  intro cx fin fin0
  refine aG ?_
  repeat (first | refine gw ?_ | refine gN fun _ => ?_ | refine gB fun _ => ?_ | fail)
  rename_i b1
  refine aLp (fun k ρ1 L1 => ∃ (j : Nat), j ≤ p.fs.length ∧ (p.fs.take j).all (fun f => eqFr f Fr.zero) = true ∧ k = p.fs.length - j ∧ ρ1 = [(3, .int .i64 (j : Int)), (1, .pointer (some ⟨b1, 0, none⟩))] ∧ L1 = [[(b1, .cells #[.slice a p.fs.length cap, .int .i64 p.hand] 32 (0, 0))]]) (o := ⟨0, Nat.zero_le _, rfl, rfl, rfl, rfl⟩) (h := ?_)
  rintro k ρ1 L1 ⟨j, hj, hall, rfl, rfl, rfl⟩
  refine aG ?_
  repeat (first | refine gw ?_ | refine gN fun _ => ?_ | refine gB fun _ => ?_ | fail)
  by_cases hlt : j < p.fs.length
  · have hnx : p.fs.take (j + 1) = p.fs.take j ++ [p.fs[j]] := by rw [List.take_add_one]; simp [hlt]
    have hmem2 : p.fs[j] ∈ p.fs := List.getElem_mem hlt
    have hu := (hi.good _ hmem2)
    obtain ⟨bx, ox, lx, ex, frx, rfl, hmem, hseg, _⟩ := doc_at hro hlt
    generalize p.fs[j] = f at hnx hmem2 hseg hu
    refine aT ?_ (hb := by simp; omega)
    refine W.drawH tab_ok 7 [.b false, .b false, .b false, .b false, .b false, .b true, .b false] [] follows (by decide +kernel) (by decide +kernel) rfl (by decide) rfl ?_
    intro _
    refine dG ?_
    repeat (first | refine dL ?_ | refine dS ?_ | (refine dN ?_; intro _; refine dG ?_) | (refine dB ?_; intro _; refine dG ?_) | fail)
    refine dV (OpVal.ixSl tab_ok rfl rfl rfl rfl rfl hlt) ?_
    refine dV (OpVal.loadN ty_141.1 ty_141.2 rfl (show At _ _ bx (.cells lx.toArray ex frx) from .inr (by simp [hsub _ hmem])) hseg) ?_
    refine dC (o := REmpty_spec) (h := ?_)
    rintro _ _ ⟨rfl, rfl⟩
    refine dG ?_
    refine dV (neDv (f := f) (g := Fr.zero) hu.2.2.2 zero_u8 rfl rfl) ?_
    refine WD.nil (W.dropNil (aG ?_))
    by_cases he : f = Fr.zero
    · have h1 : eqDv f Fr.zero = true := (eqDv_iff _ _).2 he
      refine aF ?_ (hb := by exact gd h1)
      refine aV (OpVal.add rfl rfl (i64_in _ (by omega))) ?_
      refine aR (o := ⟨p.fs.length - (j + 1), by omega, j + 1, by omega, by rw [hnx]; simp [hall, (eqFr_iff _ _).2 he], rfl, rfl, rfl⟩)
    · have h1 : eqDv f Fr.zero = false := by
        cases h : eqDv f Fr.zero with
        | false => rfl
        | true => exact absurd ((eqDv_iff _ _).1 h) he
      refine aT ?_ (hb := by exact gd h1)
      refine W.ret (fin _ _ (FinOk.mk' ([]) (.tmp rfl .nil) (by repeat (first | exact Sel.nil | (apply Sel.cons; (repeat (first | exact Pick.here | apply Pick.there))))) rfl ?_))
      refine ⟨?_, rfl⟩
      have : p.empty = false := by
        unfold Pt.empty
        rw [List.all_eq_false]
        exact ⟨f, hmem2, fun h => he ((eqFr_iff _ _).1 h)⟩
      rw [this]
      rfl
  · refine aF ?_ (hb := by simp; omega)
    have : j = p.fs.length := by omega
    subst this
    rw [List.take_length] at hall
    refine W.ret (fin _ _ (FinOk.mk' ([]) (.tmp rfl .nil) (by repeat (first | exact Sel.nil | (apply Sel.cons; (repeat (first | exact Pick.here | apply Pick.there))))) rfl ?_))
    refine ⟨?_, rfl⟩
    unfold Pt.empty
    rw [hall]
    rfl
end Go.Proofs.YtfajcpnbhnddbaaGreat
namespace Go.Proofs.YtfajcpnbhnddbaaGreat
open Go Go.Sl Go.IntWalk
set_option maxHeartbeats 8000000
set_option maxRecDepth 20000
set_option linter.unusedVariables false
theorem VLike_spec (d : Nat) (t : Tn) (hi : TInv d t) (tick : Int) (b bt bp : Nat) (Hw Ht Hp : HL) (hv : VAt d t tick b bt bp Hw Ht Hp) :
    Ctr Tryz.prog 16 [.pointer (some ⟨b, 0, none⟩)] [] (Hw ++ (Ht ++ Hp)) (fun v L' => v = .bool true ∧ L' = []) := by
  obtain ⟨l, D, rfl, hdoc, ht, hp⟩ := hv
  obtain ⟨a, c, r, at_, ct, rt, ag, cg, rg, aj, cj, rj, jl, ao, co, ro, rfl, h1, h2, h3, h4, h5, h6, h7, h8, h9, h10, h11, h12, h13, h14⟩ := hdoc
  obtain ⟨bm, rest, Hm, hin, hm, hsubm⟩ := ht.mach
  have hpi := hi.mi.inv
  have hIo := Io_spec t.m bm bp Hm hm
  have hDa := Data_spec t.m bm bp Hm hm t.p hpi Hp hp (data_k hi.mi)
  have hRD := RData_spec t.m t.p hpi (.agg #[.slice a t.p.fs.length c, .int .i64 t.p.hand, .int .i64 t.m.op, .int .i64 t.m.page, .slice at_ t.m.todo.length ct, .int .i64 t.m.to, .slice ag t.m.got.length cg]) D ⟨a, c, r, at_, ct, rt, ag, cg, rg, rfl, h1, h2, h3, h4, h5, h6, h7⟩ (data_k hi.mi)
  have hC := Count_spec d t bt bp Ht ht
  have hW := Waits_spec d t bt bp Ht ht
  have hE := PEmpty_spec t.p hpi.ok bp Hp hp
  have hRE := REmptyP_spec t.p hpi (.agg #[.slice a t.p.fs.length c, .int .i64 t.p.hand]) D ⟨a, c, r, rfl, h1, h5⟩
  have hjl : jl.length = t.js.length := by rw [← h8, List.length_map]
  rw [← hjl] at hW
  have hb : ∀ {c2 : HL} {L : List HL}, At (c2 ++ (([(b, (Obj.cells (List.toArray (.pointer (some ⟨bt, 0, none⟩) :: .pointer (some ⟨bp, 0, none⟩) :: ([.slice a t.p.fs.length c, .int .i64 t.p.hand, .int .i64 t.m.op, .int .i64 t.m.page, .slice at_ t.m.todo.length ct, .int .i64 t.m.to, .slice ag t.m.got.length cg, .int .i64 (d : Int), .int .i64 t.pages, .slice aj jl.length cj, .int .i64 t.ids, .int .u64 t.c.h, .int .u64 t.c.m, .int .u64 t.c.e, .int .u64 t.c.r, .int .u64 t.c.w, .int .u64 t.c.f, .slice ao t.out.length co] ++ [.int .i64 tick]))) 45 (0, 0)))] ++ D) ++ (Ht ++ Hp))) L b (Obj.cells (List.toArray (.pointer (some ⟨bt, 0, none⟩) :: .pointer (some ⟨bp, 0, none⟩) :: ([.slice a t.p.fs.length c, .int .i64 t.p.hand, .int .i64 t.m.op, .int .i64 t.m.page, .slice at_ t.m.todo.length ct, .int .i64 t.m.to, .slice ag t.m.got.length cg, .int .i64 (d : Int), .int .i64 t.pages, .slice aj jl.length cj, .int .i64 t.ids, .int .u64 t.c.h, .int .u64 t.c.m, .int .u64 t.c.e, .int .u64 t.c.r, .int .u64 t.c.w, .int .u64 t.c.f, .slice ao t.out.length co] ++ [.int .i64 tick]))) 45 (0, 0)) := .inr (by simp)
  have hbt : ∀ {c2 : HL} {L : List HL} {X : HL}, At (c2 ++ (X ++ (Ht ++ Hp))) L bt (Obj.cells (List.toArray (.pointer (some ⟨bm, 0, none⟩) :: rest)) 55 (0, 0)) := .inr (by simp [hin])
  generalize t.m.data t.p = dat at *
  have hh : t.m.todo = [] ∨ ∃ x rest, t.m.todo = x :: rest := by cases t.m.todo with | nil => exact .inl rfl | cons x rest => exact .inr ⟨x, rest, rfl⟩
  refine Ctr.enter (n := 102) [.tmp 2] [(0, _)] Tryz.func16 rfl rfl rfl (lb rfl) Tryz.call16 ⟨rfl, trivial⟩ ?_
  intro cx fin fin0
  refine aG ?_
  repeat (first | refine gx ?_ | refine gN fun _ => ?_ | refine gB fun _ => ?_ | fail)
  refine aV (OpVal.load tab_ok rfl (show At _ _ bt (Obj.cells (List.toArray (.pointer (some ⟨bm, 0, none⟩) :: rest)) 55 (0, 0)) from .inr (by simp [hin])) rfl) ?_
  refine aC (o := hIo) (h := ?_) (hro := RoIn.all (fun q hq => by simp [hsubm q hq]))
  rintro _ _ ⟨rfl, rfl⟩
  refine aG ?_
  repeat (first | refine gx ?_ | refine gN fun _ => ?_ | refine gB fun _ => ?_ | fail)
  refine W.drawH tab_ok 63 [.b false, .b false, .b false, .b false, .b false, .b false, .b false, .b false, .b false, .b false, .b false, .b true, .b true, .b false, .b false, .b false, .b false, .b false, .b false, .b false, .b false, .b false, .b false, .b false, .b false, .b false, .b false, .b false, .b false, .b false, .b false, .b false, .b false, .b false, .b false, .b false, .b false, .b false, .b false, .b false, .b false, .b false, .b false, .b false, .b false, .b false, .b false, .b false, .b false, .b false, .b false, .b false, .b false, .b false, .b false, .b false, .b false, .b false, .b false, .b false, .b false, .b false, .b false] [] follows (by decide +kernel) (by decide +kernel) rfl (by decide) rfl ?_
  intro _
  refine dG ?_
  repeat (first | refine dL ?_ | refine dS ?_ | (first | refine dGo ?_ | refine dSk ?_ | refine dUn ?_ | fail) | (first | refine dPT ?_ | refine dPF ?_ | fail) | refine dV (OpVal.add rfl rfl (i64_in _ (by omega))) ?_ | refine dV (OpVal.sub rfl rfl (i64_in _ (by omega))) ?_ | refine dV (OpVal.neBool tab_ok rfl rfl rfl) ?_ | refine dV (OpVal.eqBool tab_ok rfl rfl rfl) ?_ | refine dV (OpVal.eqNil tab_ok rfl rfl rfl) ?_ | refine dV (OpVal.neNil tab_ok rfl rfl rfl) ?_ | fail)
  refine dGo ?_ (hw := by simp) (o := OpVal.load tab_ok rfl hb rfl)
  repeat (first | refine dL ?_ | refine dS ?_ | (first | refine dGo ?_ | refine dSk ?_ | refine dUn ?_ | fail) | (first | refine dPT ?_ | refine dPF ?_ | fail) | refine dV (OpVal.add rfl rfl (i64_in _ (by omega))) ?_ | refine dV (OpVal.sub rfl rfl (i64_in _ (by omega))) ?_ | refine dV (OpVal.neBool tab_ok rfl rfl rfl) ?_ | refine dV (OpVal.eqBool tab_ok rfl rfl rfl) ?_ | refine dV (OpVal.eqNil tab_ok rfl rfl rfl) ?_ | refine dV (OpVal.neNil tab_ok rfl rfl rfl) ?_ | fail)
  refine dGo ?_ (hw := by simp) (o := OpVal.load tab_ok rfl hbt rfl)
  repeat (first | refine dL ?_ | refine dS ?_ | (first | refine dGo ?_ | refine dSk ?_ | refine dUn ?_ | fail) | (first | refine dPT ?_ | refine dPF ?_ | fail) | refine dV (OpVal.add rfl rfl (i64_in _ (by omega))) ?_ | refine dV (OpVal.sub rfl rfl (i64_in _ (by omega))) ?_ | refine dV (OpVal.neBool tab_ok rfl rfl rfl) ?_ | refine dV (OpVal.eqBool tab_ok rfl rfl rfl) ?_ | refine dV (OpVal.eqNil tab_ok rfl rfl rfl) ?_ | refine dV (OpVal.neNil tab_ok rfl rfl rfl) ?_ | fail)
  refine dCG (o := hDa) (h := ?_) (hw := by simp) (hro := RoIn.all (fun q hq => (List.mem_append.1 hq).elim (fun h => by simp [hsubm q h]) (fun h => by simp [h])))
  rintro _ _ ⟨ad, nd, cd, Hd, rfl, rfl, hrd, rfl⟩
  refine dG ?_
  refine dVg (OpVal.bytesStr tab_ok rfl rfl rfl rfl hrd (fun q hq => .inl (by simp [hq]))) ?_
  repeat (first | refine dL ?_ | refine dS ?_ | (first | refine dGo ?_ | refine dSk ?_ | refine dUn ?_ | fail) | (first | refine dPT ?_ | refine dPF ?_ | fail) | refine dV (OpVal.add rfl rfl (i64_in _ (by omega))) ?_ | refine dV (OpVal.sub rfl rfl (i64_in _ (by omega))) ?_ | refine dV (OpVal.neBool tab_ok rfl rfl rfl) ?_ | refine dV (OpVal.eqBool tab_ok rfl rfl rfl) ?_ | refine dV (OpVal.eqNil tab_ok rfl rfl rfl) ?_ | refine dV (OpVal.neNil tab_ok rfl rfl rfl) ?_ | fail)
  refine dGo ?_ (hw := by simp) (o := OpVal.load tab_ok rfl hb rfl)
  refine dQg (o := hRD) (h := ?_) (hro := fun q hq => by simp [hq])
  refine dGo ?_ (hw := by simp) (o := OpVal.neStr rfl rfl)
  repeat (first | refine dL ?_ | refine dS ?_ | (first | refine dGo ?_ | refine dSk ?_ | refine dUn ?_ | fail) | (first | refine dPT ?_ | refine dPF ?_ | fail) | refine dV (OpVal.add rfl rfl (i64_in _ (by omega))) ?_ | refine dV (OpVal.sub rfl rfl (i64_in _ (by omega))) ?_ | refine dV (OpVal.neBool tab_ok rfl rfl rfl) ?_ | refine dV (OpVal.eqBool tab_ok rfl rfl rfl) ?_ | refine dV (OpVal.eqNil tab_ok rfl rfl rfl) ?_ | refine dV (OpVal.neNil tab_ok rfl rfl rfl) ?_ | fail)
  refine dGo ?_ (hw := by simp) (o := OpVal.load tab_ok rfl hb rfl)
  refine dQg (o := hC) (h := ?_) (hro := fun q hq => by simp [hq])
  repeat (first | refine dL ?_ | refine dS ?_ | (first | refine dGo ?_ | refine dSk ?_ | refine dUn ?_ | fail) | (first | refine dPT ?_ | refine dPF ?_ | fail) | refine dV (OpVal.add rfl rfl (i64_in _ (by omega))) ?_ | refine dV (OpVal.sub rfl rfl (i64_in _ (by omega))) ?_ | refine dV (OpVal.neBool tab_ok rfl rfl rfl) ?_ | refine dV (OpVal.eqBool tab_ok rfl rfl rfl) ?_ | refine dV (OpVal.eqNil tab_ok rfl rfl rfl) ?_ | refine dV (OpVal.neNil tab_ok rfl rfl rfl) ?_ | fail)
  refine dGo ?_ (hw := by simp) (o := OpVal.load tab_ok rfl hb rfl)
  refine dGo ?_ (hw := by simp) (o := neC t.c rfl rfl)
  repeat (first | refine dL ?_ | refine dS ?_ | (first | refine dGo ?_ | refine dSk ?_ | refine dUn ?_ | fail) | (first | refine dPT ?_ | refine dPF ?_ | fail) | refine dV (OpVal.add rfl rfl (i64_in _ (by omega))) ?_ | refine dV (OpVal.sub rfl rfl (i64_in _ (by omega))) ?_ | refine dV (OpVal.neBool tab_ok rfl rfl rfl) ?_ | refine dV (OpVal.eqBool tab_ok rfl rfl rfl) ?_ | refine dV (OpVal.eqNil tab_ok rfl rfl rfl) ?_ | refine dV (OpVal.neNil tab_ok rfl rfl rfl) ?_ | fail)
  refine dGo ?_ (hw := by simp) (o := OpVal.load tab_ok rfl hb rfl)
  refine dQg (o := hW) (h := ?_) (hro := fun q hq => by simp [hq])
  repeat (first | refine dL ?_ | refine dS ?_ | (first | refine dGo ?_ | refine dSk ?_ | refine dUn ?_ | fail) | (first | refine dPT ?_ | refine dPF ?_ | fail) | refine dV (OpVal.add rfl rfl (i64_in _ (by omega))) ?_ | refine dV (OpVal.sub rfl rfl (i64_in _ (by omega))) ?_ | refine dV (OpVal.neBool tab_ok rfl rfl rfl) ?_ | refine dV (OpVal.eqBool tab_ok rfl rfl rfl) ?_ | refine dV (OpVal.eqNil tab_ok rfl rfl rfl) ?_ | refine dV (OpVal.neNil tab_ok rfl rfl rfl) ?_ | fail)
  refine dGo ?_ (hw := by simp) (o := OpVal.load tab_ok rfl hb rfl)
  repeat (first | refine dL ?_ | refine dS ?_ | (first | refine dGo ?_ | refine dSk ?_ | refine dUn ?_ | fail) | (first | refine dPT ?_ | refine dPF ?_ | fail) | refine dV (OpVal.add rfl rfl (i64_in _ (by omega))) ?_ | refine dV (OpVal.sub rfl rfl (i64_in _ (by omega))) ?_ | refine dV (OpVal.neBool tab_ok rfl rfl rfl) ?_ | refine dV (OpVal.eqBool tab_ok rfl rfl rfl) ?_ | refine dV (OpVal.eqNil tab_ok rfl rfl rfl) ?_ | refine dV (OpVal.neNil tab_ok rfl rfl rfl) ?_ | fail)
  refine dGo ?_ (hw := by simp) (o := OpVal.load tab_ok rfl hb rfl)
  refine dQg (o := hE) (h := ?_) (hro := fun q hq => by simp [hq])
  repeat (first | refine dL ?_ | refine dS ?_ | (first | refine dGo ?_ | refine dSk ?_ | refine dUn ?_ | fail) | (first | refine dPT ?_ | refine dPF ?_ | fail) | refine dV (OpVal.add rfl rfl (i64_in _ (by omega))) ?_ | refine dV (OpVal.sub rfl rfl (i64_in _ (by omega))) ?_ | refine dV (OpVal.neBool tab_ok rfl rfl rfl) ?_ | refine dV (OpVal.eqBool tab_ok rfl rfl rfl) ?_ | refine dV (OpVal.eqNil tab_ok rfl rfl rfl) ?_ | refine dV (OpVal.neNil tab_ok rfl rfl rfl) ?_ | fail)
  refine dGo ?_ (hw := by simp) (o := OpVal.load tab_ok rfl hb rfl)
  refine dQg (o := hRE) (h := ?_) (hro := fun q hq => by simp [hq])
  refine dGo ?_ (hw := by simp) (o := OpVal.neBool tab_ok rfl rfl rfl)
  repeat (first | refine dL ?_ | refine dS ?_ | (first | refine dGo ?_ | refine dSk ?_ | refine dUn ?_ | fail) | (first | refine dPT ?_ | refine dPF ?_ | fail) | refine dV (OpVal.add rfl rfl (i64_in _ (by omega))) ?_ | refine dV (OpVal.sub rfl rfl (i64_in _ (by omega))) ?_ | refine dV (OpVal.neBool tab_ok rfl rfl rfl) ?_ | refine dV (OpVal.eqBool tab_ok rfl rfl rfl) ?_ | refine dV (OpVal.eqNil tab_ok rfl rfl rfl) ?_ | refine dV (OpVal.neNil tab_ok rfl rfl rfl) ?_ | fail)
  refine WD.nil (W.dropNil (aG ?_))
  repeat (first | refine gx ?_ | refine gN fun _ => ?_ | refine gB fun _ => ?_ | fail)
  rcases hh with h0 | ⟨x, rest', h0⟩
  case' inl =>
    have hz : ¬ 0 < ((t.m.todo.length : Nat) : Int) := by rw [h0]; decide
    refine W.drawH tab_ok 15 [.b false, .b false, .b false, .b false, .b false, .b false, .b false, .b false, .b false, .b false, .b false, .b false, .b false, .b false, .b false] [] follows (by decide +kernel) (by decide +kernel) rfl (by decide) rfl ?_
    intro _
    refine dG ?_
    repeat (first | refine dL ?_ | refine dS ?_ | (first | refine dGo ?_ | refine dSk ?_ | refine dUn ?_ | refine dGo ?_ (hw := by exact gd hz) | refine dSk ?_ (hw := by exact gd hz) | fail) | (first | refine dPT ?_ | refine dPF ?_ | refine dPT ?_ (hb := by exact gd hz) | refine dPF ?_ (hb := by exact gd hz) | fail) | refine dV (OpVal.add rfl rfl (i64_in _ (by omega))) ?_ | refine dV (OpVal.sub rfl rfl (i64_in _ (by omega))) ?_ | refine dV (OpVal.neBool tab_ok rfl rfl rfl) ?_ | refine dV (OpVal.eqBool tab_ok rfl rfl rfl) ?_ | refine dV (OpVal.eqNil tab_ok rfl rfl rfl) ?_ | refine dV (OpVal.neNil tab_ok rfl rfl rfl) ?_ | fail)
    refine WD.nil (W.dropNil (aG ?_))
    repeat (first | refine gh hz ?_ | refine gN fun _ => ?_ | refine gB fun _ => ?_ | fail)
    refine W.ret (fin _ _ (FinOk.first 0 (.tmp rfl .nil) rfl ?_))
    exact ⟨by simp [pack], rfl⟩
  case' inr =>
    have hz : 0 < ((t.m.todo.length : Nat) : Int) := by rw [h0]; simp
    have hz2 : 0 < t.m.todo.length := by omega
    have hio : t.m.io = t.m.todo[0] := by unfold Mc.io; simp [h0]
    obtain ⟨bx, ox, lx, ex, frx, rfl, rfl, hsx, -⟩ := RoSl.at (f := io3) (m := 3) (fun _ => rfl) h2 hz2
    refine W.drawH tab_ok 15 [.b false, .b false, .b false, .b false, .b false, .b false, .b false, .b false, .b false, .b false, .b false, .b false, .b false, .b false, .b false] [] follows (by decide +kernel) (by decide +kernel) rfl (by decide) rfl ?_
    intro _
    refine dG ?_
    repeat (first | refine dL ?_ | refine dS ?_ | (first | refine dGo ?_ | refine dSk ?_ | refine dUn ?_ | refine dGo ?_ (hw := by exact gd hz) | refine dSk ?_ (hw := by exact gd hz) | fail) | (first | refine dPT ?_ | refine dPF ?_ | refine dPT ?_ (hb := by exact gd hz) | refine dPF ?_ (hb := by exact gd hz) | fail) | refine dV (OpVal.add rfl rfl (i64_in _ (by omega))) ?_ | refine dV (OpVal.sub rfl rfl (i64_in _ (by omega))) ?_ | refine dV (OpVal.neBool tab_ok rfl rfl rfl) ?_ | refine dV (OpVal.eqBool tab_ok rfl rfl rfl) ?_ | refine dV (OpVal.eqNil tab_ok rfl rfl rfl) ?_ | refine dV (OpVal.neNil tab_ok rfl rfl rfl) ?_ | fail)
    refine dGo ?_ (hw := by exact ndT hz) (o := OpVal.load tab_ok rfl (by repeat (first | exact rh | exact rhF | apply raF | apply rt)) rfl)
    repeat (first | refine dL ?_ | refine dS ?_ | (first | refine dGo ?_ | refine dSk ?_ | refine dUn ?_ | refine dGo ?_ (hw := by exact gd hz) | refine dSk ?_ (hw := by exact gd hz) | fail) | (first | refine dPT ?_ | refine dPF ?_ | refine dPT ?_ (hb := by exact gd hz) | refine dPF ?_ (hb := by exact gd hz) | fail) | refine dV (OpVal.add rfl rfl (i64_in _ (by omega))) ?_ | refine dV (OpVal.sub rfl rfl (i64_in _ (by omega))) ?_ | refine dV (OpVal.neBool tab_ok rfl rfl rfl) ?_ | refine dV (OpVal.eqBool tab_ok rfl rfl rfl) ?_ | refine dV (OpVal.eqNil tab_ok rfl rfl rfl) ?_ | refine dV (OpVal.neNil tab_ok rfl rfl rfl) ?_ | fail)
    refine dGo ?_ (hw := by exact ndT hz) (o := OpVal.load tab_ok rfl hb rfl)
    refine dGo ?_ (hw := by exact ndT hz) (o := OpVal.ixSl (j := 0) tab_ok rfl rfl rfl rfl rfl hz2)
    refine dGo ?_ (hw := by exact ndT hz) (o := OpVal.loadN ty_99.1 ty_99.2 rfl (show At _ _ bx (.cells lx.toArray ex frx) from .inr (by simp [h6])) hsx)
    refine dGo ?_ (hw := by exact ndT hz) (o := OpVal.eqD (k := 2) rfl rfl (X_eq t.m.io t.m.todo[0]) (by decide) X_guard)
    rw [hio, eqIo_self]
    repeat (first | refine dL ?_ | refine dS ?_ | (first | refine dGo ?_ | refine dSk ?_ | refine dUn ?_ | refine dGo ?_ (hw := by exact gd hz) | refine dSk ?_ (hw := by exact gd hz) | fail) | (first | refine dPT ?_ | refine dPF ?_ | refine dPT ?_ (hb := by exact gd hz) | refine dPF ?_ (hb := by exact gd hz) | fail) | refine dV (OpVal.add rfl rfl (i64_in _ (by omega))) ?_ | refine dV (OpVal.sub rfl rfl (i64_in _ (by omega))) ?_ | refine dV (OpVal.neBool tab_ok rfl rfl rfl) ?_ | refine dV (OpVal.eqBool tab_ok rfl rfl rfl) ?_ | refine dV (OpVal.eqNil tab_ok rfl rfl rfl) ?_ | refine dV (OpVal.neNil tab_ok rfl rfl rfl) ?_ | fail)
    refine WD.nil (W.dropNil (aG ?_))
    refine W.ret (fin _ _ (FinOk.first 0 (.tmp rfl .nil) rfl ?_))
    exact ⟨by simp [pack], rfl⟩
end Go.Proofs.YtfajcpnbhnddbaaGreat
