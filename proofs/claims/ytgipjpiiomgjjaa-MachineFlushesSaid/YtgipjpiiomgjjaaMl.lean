/-
  The law's step; requests that may be.
-/
import Derived.Test.YtgipjpiiomgjjaaMk
import Derived.Test.YtgipjpiiomgjjaaUp
namespace Go.Proofs.Ytgipjpiiomgjjaa
open Go Go.Sl Go.IntWalk
set_option maxHeartbeats 8000000
set_option maxRecDepth 20000
theorem split2 {P : Program} {n : Nat} {R : HL} {cx : Cx} {K : List Kont} {ρ : Env} {L M : List HL} {A B : HL} (h : L = (A ++ B) :: M) (hk : W P n R cx K ρ (A :: B :: M)) : W P n R cx K ρ L := by
  subst h
  exact W.regroup (by simp) hk
def ops14 : List Int := [1, 1, 1, 2, 2, 3, 3, 3, 4, 4, 5, 6, 7, 8]
def gop (x : Int) : Int := ops14.getD (around x 14).toNat 0
def gq (q : Rq) (n : Int) : Rq := ⟨gop q.op, if gop q.op ≠ 6 ∧ gop q.op ≠ 8 then around q.page n else 0, if gop q.op = 2 ∨ gop q.op = 3 then around q.off 33 else 0,
  if gop q.op = 2 then around q.len (33 - around q.off 33) else 0, if gop q.op = 3 then (fill q.data (around q.len 33).toNat).take (32 - around q.off 33).toNat else []⟩
theorem gop_cases (x : Int) : gop x = 1 ∨ gop x = 2 ∨ gop x = 3 ∨ gop x = 4 ∨ gop x = 5 ∨ gop x = 6 ∨ gop x = 7 ∨ gop x = 8 := by
  have h := around_range x 14 (by decide)
  unfold gop
  obtain ⟨k, hk⟩ : ∃ k : Nat, around x 14 = (k : Int) := ⟨(around x 14).toNat, by omega⟩
  rw [hk, Int.toNat_natCast]
  have hk2 : k < 14 := by omega
  match k, hk2 with
  | 0, _ => decide
  | 1, _ => decide
  | 2, _ => decide
  | 3, _ => decide
  | 4, _ => decide
  | 5, _ => decide
  | 6, _ => decide
  | 7, _ => decide
  | 8, _ => decide
  | 9, _ => decide
  | 10, _ => decide
  | 11, _ => decide
  | 12, _ => decide
  | 13, _ => decide
structure Rq.Ok (q : Rq) : Prop where
  op : 1 ≤ q.op ∧ q.op ≤ 8
  page : 0 ≤ q.page
  off : i64s q.off
  len : i64s q.len
  u8 : u8ok q.data
  dl : q.data.length ≤ 1000000
theorem gq_ok (q : Rq) (n : Int) (hn : 0 < n) (hu : u8ok q.data) : (gq q n).Ok := by
  have h0 := around_range q.off 33 (by decide)
  have h1 := around_range q.page n hn
  have h2 := around_range q.len 33 (by decide)
  have h3 := around_range q.len (33 - around q.off 33) (by omega)
  have h4 := gop_cases q.op
  refine ⟨by simp only [gq]; omega, ?_, ?_, ?_, ?_, ?_⟩
  · simp only [gq]; split <;> omega
  · simp only [gq, i64s]; split <;> omega
  · simp only [gq, i64s]; split <;> omega
  · simp only [gq]
    split
    · exact fun b hb => fill_ok hu _ b (List.mem_of_mem_take hb)
    · intro b hb; cases hb
  · simp only [gq]
    split
    · rw [List.length_take, fill_len]; omega
    · simp
def wStep (m : Mc) (p : Pt) (q : Rq) (f : Bool) : Mc × Pt := if m.todo = [] then ((mBegin m p q).1, (mBegin m p q).2.1) else ((mEnd m p (if f then 9 else 0) (fill q.data 16)).1, (mEnd m p (if f then 9 else 0) (fill q.data 16)).2.1)
theorem wStep_inv {m : Mc} {p : Pt} (h : MInv m p) {q : Rq} (hq : q.Ok) (f : Bool) : MInv (wStep m p q f).1 (wStep m p q f).2 := by
  unfold wStep
  split
  · rename_i ht
    exact begin_inv h ht hq.op.1 hq.op.2 hq.u8
  · rename_i ht
    exact end_inv h ht _ (fill_ok hq.u8 16) (fill_len _ _)
theorem mEnd_data (m : Mc) (p : Pt) (e : Int) (bs : List Int) : (mEnd m p e bs).2.2.data = [] := by
  unfold mEnd
  split
  · rfl
  · split <;> rfl
theorem StepE_spec (m : Mc) (p : Pt) (hi : MInv m p) (ht : ¬ m.todo = []) (b bm bp : Nat) (Hw Hm Hp : HL) (hw : WAt m p b bm bp Hw Hm Hp) (q : Rq) (hu : u8ok q.data) (aq : Option Addr) (cq : Nat) (rq : HL) (hrq : RoSl 1 (u8s q.data) aq q.data.length rq) (f : Bool) :
    Ctr Try.prog 12 [.pointer (some ⟨b, 0, none⟩), q.v aq cq, .bool f] [Hw, Hm, Hp] rq (fun v L' => ∃ Hw' Hm' Hp', v = .bool true ∧ L' = [Hw', Hm', Hp'] ∧ WAt (wStep m p q f).1 (wStep m p q f).2 b bm bp Hw' Hm' Hp') := by
  obtain ⟨a, c, r, at_, ct, rt, ag, cg, rg, D, rfl, h2, h3, h4, h5, h6, h7, h8, hm, hp⟩ := hw
  have hv : DocM m p _ D := ⟨a, c, r, at_, ct, rt, ag, cg, rg, rfl, h2, h3, h4, h5, h6, h7, h8⟩
  unfold wStep
  rw [if_neg ht]
  have hpos : ¬ ((m.todo.length : Nat) : Int) = 0 := by
    intro h
    exact ht (List.eq_nil_of_length_eq_zero (by omega))
  have hpos2 : 0 < ((m.todo.length : Nat) : Int) := by omega
  have hBu := Busy_spec m bm bp Hm hm
  have hFi := Fill_spec q.data aq cq rq hrq 16 (by decide) (by decide)
  obtain ⟨e, he⟩ : ∃ e : Int, e = (if f then (9 : Int) else 0) := ⟨_, rfl⟩
  rw [← he]
  have hbu := fill_ok hu 16
  have hbl := fill_len q.data 16
  have hE1 : ∀ (ab : Option Addr) (cb : Nat) (rb : HL), RoSl 1 (u8s (fill q.data 16)) ab 16 rb → Ctr Try.prog 30 [.agg #[.slice a p.fs.length c, .int .i64 p.hand, .int .i64 m.op, .int .i64 m.page, .slice at_ m.todo.length ct, .int .i64 m.to, .slice ag m.got.length cg], .int .i64 e, .slice ab 16 cb] [] (D ++ rb) (DocOut (mEnd m p e (fill q.data 16)) D) := by
    intro ab cb rb hrb
    rw [← hbl] at hrb
    by_cases he : e = 0
    · have := REnd_ok m ht p hi.inv _ D hv (fill q.data 16) ab cb rb hrb (got_len hi hbl) (end_sto hi ht) (mStep_inv hi ht hbu hbl).1 (end_load_inv hi ht hbu hbl _ _)
      rw [hbl] at this
      rw [he]
      exact this
    · have := REnd_err m p _ D hv e he (fill q.data 16) ab cb
      rw [hbl] at this
      exact this.ro (fun x hx => List.mem_append_left _ hx)
  have hE2 : ∀ (ab : Option Addr) (cb : Nat) (rb : HL), RoSl 1 (u8s (fill q.data 16)) ab 16 rb → _ := fun ab cb rb hrb => by
    have := End_spec m ht bm bp Hm hm p hi.inv Hp hp e (fill q.data 16) ab cb rb (by rw [hbl]; exact hrb) (got_len hi hbl) (mStep_inv hi ht hbu hbl).1 (end_load_inv hi ht hbu hbl _ _)
    rw [hbl] at this
    exact this
  have hdat := mEnd_data m p e (fill q.data 16)
  generalize mEnd m p e (fill q.data 16) = o at *
  refine Ctr.enter (n := 74) [.tmp 6] [(0, _), (1, _), (2, _)] Try.func12 rfl rfl rfl (lb rfl) Try.call12 ⟨rfl, rfl, rfl, trivial⟩ ?_
  intro cx fin fin0
  refine aG ?_
  refine split2 rfl ?_
  refine aG ?_
  repeat (first | refine gh hpos ?_ | refine gN fun _ => ?_ | refine gB fun _ => ?_ | fail)
  refine aC (o := hBu) (h := ?_) (hro := RoIn.own 3 rfl)
  rintro _ _ ⟨rfl, rfl⟩
  refine aG ?_
  repeat (first | refine gh hpos2 ?_ | refine gN fun _ => ?_ | refine gB fun _ => ?_ | fail)
  cases f
  case' false => have he0 : e = 0 := he
  case' true => have he0 : e = 9 := he
  all_goals
    subst he0
    repeat (first | refine gx ?_ | refine gN fun _ => ?_ | refine gB fun _ => ?_ | fail)
    refine aC (o := hFi) (h := ?_) (hro := RoIn.all (fun q hq => hq))
    rintro _ _ ⟨af, cf, Hf, rfl, rfl, hof⟩
    refine aG ?_
    repeat (first | refine gx ?_ | refine gN fun _ => ?_ | refine gB fun _ => ?_ | fail)
    refine aC (o := hE1 af cf Hf (Own.roSl hof)) (h := ?_) (hro := RoIn.append (RoIn.own 3 rfl) (RoIn.own 0 rfl))
    rintro _ _ ⟨H, v1, rfl, rfl, a2, c2, r2, at2, ct2, rt2, ag2, cg2, rg2, rfl, k2, k3, k4, k5, k6, k7, k8⟩
    refine aG ?_
    rw [show o.2.2.d = .agg (List.toArray [.bool o.2.2.done, .int .i64 o.2.2.errno, .bool o.2.2.hit, .string (bstr o.2.2.data), .int .u64 o.2.2.add.h, .int .u64 o.2.2.add.m, .int .u64 o.2.2.add.e, .int .u64 o.2.2.add.r, .int .u64 o.2.2.add.w, .int .u64 o.2.2.add.f]) from rfl]
    repeat (first | refine gx ?_ | refine gN fun _ => ?_ | refine gB fun _ => ?_ | fail)
    refine W.drawH tab_ok 10 [.b false, .b false, .b false, .b false, .b false, .b false, .b true, .b false, .b true, .b false] [7,8] follows (by decide +kernel) (by decide +kernel) rfl (by decide) rfl ?_
    intro _
    refine dG ?_
    repeat (first | refine dL ?_ | refine dS ?_ | (refine dN ?_; intro _; refine dG ?_) | (refine dB ?_; intro _; refine dG ?_) | fail)
    refine dC (o := hE2 af cf Hf (Own.roSl hof)) (h := ?_) (hro := RoIn.all (fun q hq => by simp [hq]))
    rintro _ _ ⟨Hm2, Hp2, rfl, rfl, g1, g2⟩
    refine dG ?_
    repeat (first | refine dL ?_ | refine dS ?_ | (refine dN ?_; intro _; refine dG ?_) | (refine dB ?_; intro _; refine dG ?_) | fail)
    refine dC (o := WSame_spec o.2.2 none 0 0 [] (by rw [hdat]; exact ⟨rfl, .inl ⟨rfl, rfl⟩⟩)) (h := ?_) (hro := RoIn.nil)
    rintro _ _ ⟨rfl, rfl⟩
    refine dG ?_
    repeat (first | refine dL ?_ | refine dS ?_ | (refine dN ?_; intro _; refine dG ?_) | (refine dB ?_; intro _; refine dG ?_) | fail)
    refine WD.nil (W.dropNil (aG ?_))
    refine W.groupV [7, 4, 6] rfl ?_
    refine W.ret (fin _ _ (FinOk.first 3 (.tmp rfl .nil) rfl ?_))
    exact ⟨_, _, _, rfl, rfl, a2, c2, r2, at2, ct2, rt2, ag2, cg2, rg2, H ++ D, rfl, k2, k3, k4, k5, k6, k7, k8, g1, g2⟩
theorem Step_spec (m : Mc) (p : Pt) (hi : MInv m p) (b bm bp : Nat) (Hw Hm Hp : HL) (hw : WAt m p b bm bp Hw Hm Hp) (q : Rq) (hq : q.Ok) (aq : Option Addr) (cq : Nat) (rq : HL) (hrq : RoSl 1 (u8s q.data) aq q.data.length rq) (f : Bool) :
    Ctr Try.prog 12 [.pointer (some ⟨b, 0, none⟩), q.v aq cq, .bool f] [Hw, Hm, Hp] rq (fun v L' => ∃ Hw' Hm' Hp', v = .bool true ∧ L' = [Hw', Hm', Hp'] ∧ WAt (wStep m p q f).1 (wStep m p q f).2 b bm bp Hw' Hm' Hp') := by
  by_cases ht : m.todo = []
  case neg => exact StepE_spec m p hi ht b bm bp Hw Hm Hp hw q hq.u8 aq cq rq hrq f
  obtain ⟨a, c, r, at_, ct, rt, ag, cg, rg, D, rfl, h2, h3, h4, h5, h6, h7, h8, hm, hp⟩ := hw
  have hv : DocM m p _ D := ⟨a, c, r, at_, ct, rt, ag, cg, rg, rfl, h2, h3, h4, h5, h6, h7, h8⟩
  unfold wStep
  rw [if_pos ht]
  have hlen : ((m.todo.length : Nat) : Int) = 0 := by rw [ht]; rfl
  have hRB := RBegin_spec m p hi.inv _ D hv q hq.op.1 hq.op.2 hq.off hq.len (fun _ => hq.page) aq cq hq.dl rq hrq
  have hB := Begin_spec m bm bp Hm hm p hi.inv Hp hp q hq.op.1 hq.op.2 hq.off aq cq rq hrq
  generalize mBegin m p q = o at *
  refine Ctr.enter (n := 74) [.tmp 6] [(0, _), (1, _), (2, _)] Try.func12 rfl rfl rfl (lb rfl) Try.call12 ⟨rfl, rfl, rfl, trivial⟩ ?_
  intro cx fin fin0
  refine aG ?_
  refine split2 rfl ?_
  refine aG ?_
  repeat (first | refine gh hlen ?_ | refine gN fun _ => ?_ | refine gB fun _ => ?_ | fail)
  refine W.drawG tab_ok 11 13 [.b false, .b false, .b false, .b false, .b false, .b true, .b false, .b false, .b false, .f, .f] [.b true, .b true] [] follows (by decide) rfl (by decide +kernel) (by decide +kernel) (by decide) (by decide +kernel) rfl (by decide) rfl ?_
  intro _
  refine dG ?_
  repeat (first | refine dL ?_ | refine dS ?_ | (refine dN ?_; intro _; refine dG ?_) | (refine dB ?_; intro _; refine dG ?_) | fail)
  refine dC (o := hRB) (h := ?_) (hro := RoIn.all (fun q hq => (List.mem_append.1 hq).elim (fun h => by simp [h]) (fun h => by simp [h])))
  rintro _ _ ⟨H, v1, rfl, rfl, a2, c2, r2, at2, ct2, rt2, ag2, cg2, rg2, rfl, k2, k3, k4, k5, k6, k7, k8⟩
  refine dG ?_
  rw [show o.2.2.d = .agg (List.toArray [.bool o.2.2.done, .int .i64 o.2.2.errno, .bool o.2.2.hit, .string (bstr o.2.2.data), .int .u64 o.2.2.add.h, .int .u64 o.2.2.add.m, .int .u64 o.2.2.add.e, .int .u64 o.2.2.add.r, .int .u64 o.2.2.add.w, .int .u64 o.2.2.add.f]) from rfl]
  repeat (first | refine dL ?_ | refine dS ?_ | (refine dN ?_; intro _; refine dG ?_) | (refine dB ?_; intro _; refine dG ?_) | fail)
  refine WD.float tab_ok rfl rfl (lb rfl) (dG ?_)
  refine WD.float tab_ok rfl rfl (lb rfl) (dG ?_)
  refine WD.nil ?_
  intro _ _ _ e; cases e
  intro _ _ _ e; cases e
  refine dG ?_
  refine dSb 0 ?_
  repeat (first | refine dL ?_ | refine dS ?_ | (refine dN ?_; intro _; refine dG ?_) | (refine dB ?_; intro _; refine dG ?_) | fail)
  refine WD.nil (W.dropNil (aG ?_))
  repeat (first | refine gx ?_ | refine gN fun _ => ?_ | refine gB fun _ => ?_ | fail)
  refine W.drawH tab_ok 9 [.b false, .b false, .b false, .b false, .b false, .b true, .b false, .b true, .b false] [6,7] follows (by decide +kernel) (by decide +kernel) rfl (by decide) rfl ?_
  intro _
  refine dG ?_
  repeat (first | refine dL ?_ | refine dS ?_ | (refine dN ?_; intro _; refine dG ?_) | (refine dB ?_; intro _; refine dG ?_) | fail)
  refine dC (o := hB) (h := ?_) (hro := RoIn.all (fun q hq => by simp [hq]))
  rintro _ _ ⟨ar, nr, cr, Hm2, Hp2, Hd, rfl, rfl, g1, g2, g3, g4⟩
  refine dG ?_
  repeat (first | refine dL ?_ | refine dS ?_ | (refine dN ?_; intro _; refine dG ?_) | (refine dB ?_; intro _; refine dG ?_) | fail)
  refine dC (o := WSame_spec o.2.2 ar nr cr Hd g3) (h := ?_) (hro := RoIn.own 2 rfl)
  rintro _ _ ⟨rfl, rfl⟩
  refine dG ?_
  repeat (first | refine dL ?_ | refine dS ?_ | (refine dN ?_; intro _; refine dG ?_) | (refine dB ?_; intro _; refine dG ?_) | fail)
  refine WD.nil (W.dropNil (aG ?_))
  refine W.groupV [7, 5, 6] rfl ?_
  refine W.ret (fin _ _ (FinOk.first 3 (.tmp rfl .nil) rfl ?_))
  exact ⟨_, _, _, rfl, rfl, a2, c2, r2, at2, ct2, rt2, ag2, cg2, rg2, H ++ D, rfl, k2, k3, k4, k5, k6, k7, k8, g1, g2⟩
end Go.Proofs.Ytgipjpiiomgjjaa
