/-
  A request to its end: plain, and the law's run.
-/
import Derived.Test.YtgipjpiiomgjjaaMr
namespace Go.Proofs.Ytgipjpiiomgjjaa
open Go Go.Sl Go.IntWalk
set_option maxHeartbeats 8000000
set_option maxRecDepth 20000
theorem rq_ok {o p f l : Int} {d : List Int} (h1 : 1 ≤ o ∧ o ≤ 8) (h2 : 0 ≤ p) (h3 : i64s f) (h4 : i64s l) (h5 : u8ok d) (h6 : d.length ≤ 1000000) : (⟨o, p, f, l, d⟩ : Rq).Ok := ⟨h1, h2, h3, h4, h5, h6⟩
theorem doPage_len (p : Pt) (page : Int) (g : Fr → Fr × Int) : (p.doPage page g).1.fs.length = p.fs.length := by
  unfold Pt.doPage
  split
  · simp [Pt.setF]
  · rfl
theorem get_len (p : Pt) (page off n : Int) : (p.get page off n).1.fs.length = p.fs.length := by
  unfold Pt.get
  split
  · simp [Pt.setF]
  · rfl
theorem victim_len (p : Pt) : p.victim.1.fs.length = p.fs.length := setAll_len _ _
theorem release_len (p : Pt) (i : Int) : (p.release i).1.fs.length = p.fs.length := by
  unfold Pt.release
  split
  · rfl
  · split
    · simp
    · rfl
theorem load_len (p : Pt) (i page : Int) (bs : List Int) : (p.load i page bs).1.fs.length = p.fs.length := by
  unfold Pt.load
  split
  · split
    · simp
    · rfl
  · rfl
theorem mStored_len (m : Mc) (p : Pt) (page : Int) : (mStored m p page).1.fs.length = p.fs.length := by
  unfold mStored
  split
  · simp only [release_len, clean_len]
  · simp only [clean_len]
theorem mStep_len (m : Mc) (p : Pt) (bs : List Int) : (mStep m p bs).2.1.fs.length = p.fs.length := by
  unfold mStep
  split
  · exact mStored_len m p _
  · split <;> rfl
theorem mEnd_len (m : Mc) (p : Pt) (e : Int) (bs : List Int) : (mEnd m p e bs).2.1.fs.length = p.fs.length := by
  unfold mEnd
  split
  · rfl
  · split
    · exact mStep_len m p bs
    · simp only
      split
      · rw [doPage_len, load_len, mStep_len]
      · exact mStep_len m p bs
theorem mBegin_len (m : Mc) (p : Pt) (q : Rq) : (mBegin m p q).2.1.fs.length = p.fs.length := by
  unfold mBegin mOp
  split
  · unfold mFetch
    split
    · exact doPage_len _ _ _
    · unfold mMiss
      split
      · exact victim_len p
      · simp only
        split
        · rw [release_len, victim_len]
        · exact victim_len p
  · split
    · exact get_len _ _ _ _
    · split
      · exact doPage_len _ _ _
      · split
        · exact doPage_len _ _ _
        · split
          · rfl
          · split
            · rfl
            · split
              · unfold mDiscard
                split
                · rfl
                · exact release_len _ _
              · rfl
theorem wStep_len (m : Mc) (p : Pt) (q : Rq) (f : Bool) : (wStep m p q f).2.fs.length = p.fs.length := by
  unfold wStep
  split
  · exact mBegin_len _ _ _
  · exact mEnd_len _ _ _ _
theorem mStep_todo (m : Mc) (p : Pt) (bs : List Int) : (mStep m p bs).1.todo = m.todo.tail := by
  unfold mStep
  split
  · rfl
  · split <;> rfl
theorem mEnd_todo (m : Mc) (p : Pt) (bs : List Int) : (mEnd m p 0 bs).1.todo = m.todo.tail := by
  unfold mEnd
  rw [if_neg (by simp)]
  split
  · exact mStep_todo m p bs
  · rename_i h
    rw [mStep_todo] at h
    exact (List.eq_nil_of_length_eq_zero (by omega)).symm
theorem wStep_todo {m : Mc} (p : Pt) (q : Rq) (h : m.todo ≠ []) : (wStep m p q false).1.todo = m.todo.tail := by
  unfold wStep
  rw [if_neg h]
  exact mEnd_todo m p _
/-- So many steps behind each other. -/
def wLoop (q : Rq) : Nat → Mc × Pt → Mc × Pt
  | 0, s => s
  | k + 1, s => wStep (wLoop q k s).1 (wLoop q k s).2 q false
theorem wLoop_todo (q : Rq) (s : Mc × Pt) : ∀ k, k ≤ s.1.todo.length → (wLoop q k s).1.todo.length = s.1.todo.length - k
  | 0, _ => rfl
  | k + 1, h => by
    have := wLoop_todo q s k (by omega)
    show (wStep (wLoop q k s).1 (wLoop q k s).2 q false).1.todo.length = _
    rw [wStep_todo _ _ (by intro h0; rw [h0] at this; simp at this; omega), List.length_tail, this]
    omega
theorem wLoop_fs (q : Rq) (s : Mc × Pt) : ∀ k, (wLoop q k s).2.fs.length = s.2.fs.length
  | 0 => rfl
  | k + 1 => by
    show (wStep (wLoop q k s).1 (wLoop q k s).2 q false).2.fs.length = _
    rw [wStep_len]
    exact wLoop_fs q s k
/-- A step's end asks of a request no more than its bytes. -/
theorem wStep_inv0 {m : Mc} {p : Pt} (h : MInv m p) {q : Rq} (hq : m.todo = [] → q.Ok) (hu : u8ok q.data) (f : Bool) : MInv (wStep m p q f).1 (wStep m p q f).2 := by
  unfold wStep
  split
  · rename_i ht
    exact begin_inv h ht (hq ht).op.1 (hq ht).op.2 hu
  · rename_i ht
    exact end_inv h ht _ (fill_ok hu 16) (fill_len _ _)
theorem wLoop_inv {q : Rq} (hu : u8ok q.data) {s : Mc × Pt} (h : MInv s.1 s.2) : ∀ k, k ≤ s.1.todo.length → MInv (wLoop q k s).1 (wLoop q k s).2
  | 0, _ => h
  | k + 1, hk => wStep_inv0 (wLoop_inv hu h k (by omega)) (fun h0 => by
      have := wLoop_todo q s k (by omega)
      rw [h0] at this
      simp at this
      omega) hu false
def wRun (m : Mc) (p : Pt) (q : Rq) : Mc × Pt := wLoop q (wStep m p q false).1.todo.length (wStep m p q false)
theorem wRun_inv {m : Mc} {p : Pt} (h : MInv m p) {q : Rq} (hq : q.Ok) : MInv (wRun m p q).1 (wRun m p q).2 := wLoop_inv hq.u8 (wStep_inv h hq false) _ (Nat.le_refl _)
theorem wRun_todo (m : Mc) (p : Pt) (q : Rq) : (wRun m p q).1.todo = [] := by
  have := wLoop_todo q (wStep m p q false) _ (Nat.le_refl _)
  exact List.eq_nil_of_length_eq_zero (by unfold wRun; omega)
theorem wRun_len (m : Mc) (p : Pt) (q : Rq) : (wRun m p q).2.fs.length = p.fs.length := by
  unfold wRun
  rw [wLoop_fs, wStep_len]
theorem begin_todo {m : Mc} (p : Pt) (q : Rq) (h : m.todo = []) : (mBegin m p q).1.todo.length ≤ 4 ∨ (mBegin m p q).1.todo.length ≤ 2 * p.fs.length + 1 := by
  have hs : ∀ page, (planFlush (selD p page p.dirty)).length ≤ 2 * p.fs.length + 1 := fun page => by
    have h1 := selD_len p page p.dirty
    have h2 := dirty_len p
    unfold planFlush
    rw [List.length_append, pages_len, List.length_singleton]
    omega
  have hz : m.todo.length ≤ 4 := by rw [h]; decide
  unfold mBegin mOp
  split
  · unfold mFetch
    split
    · exact .inl hz
    · unfold mMiss
      split
      · exact .inl hz
      · exact .inl (plan_len _ _ _)
  · split
    · exact .inl hz
    · split
      · exact .inl hz
      · split
        · exact .inl hz
        · split
          · exact .inr (hs _)
          · split
            · exact .inr (hs _)
            · split <;> exact .inl hz
theorem Step0_spec (m : Mc) (p : Pt) (hi : MInv m p) (b bm bp : Nat) (Hw Hm Hp : HL) (hw : WAt m p b bm bp Hw Hm Hp) (q : Rq) (hq : m.todo = [] → q.Ok) (hu : u8ok q.data) (aq : Option Addr) (cq : Nat) (rq : HL) (hrq : RoSl 1 (u8s q.data) aq q.data.length rq) (f : Bool) :
    Ctr Try.prog 12 [.pointer (some ⟨b, 0, none⟩), q.v aq cq, .bool f] [Hw, Hm, Hp] rq (fun v L' => ∃ Hw' Hm' Hp', v = .bool true ∧ L' = [Hw', Hm', Hp'] ∧ WAt (wStep m p q f).1 (wStep m p q f).2 b bm bp Hw' Hm' Hp') := by
  by_cases ht : m.todo = []
  · exact Step_spec m p hi b bm bp Hw Hm Hp hw q (hq ht) aq cq rq hrq f
  · exact StepE_spec m p hi ht b bm bp Hw Hm Hp hw q hu aq cq rq hrq f
theorem Run_spec (m : Mc) (p : Pt) (hi : MInv m p) (ht : m.todo = []) (b bm bp : Nat) (Hw Hm Hp : HL) (hw : WAt m p b bm bp Hw Hm Hp) (q : Rq) (hq : q.Ok) (aq : Option Addr) (cq : Nat) (rq : HL) (hrq : RoSl 1 (u8s q.data) aq q.data.length rq) :
    Ctr Try.prog 10 [.pointer (some ⟨b, 0, none⟩), q.v aq cq] [Hw, Hm, Hp] rq (fun v L' => ∃ Hw' Hm' Hp', v = .int .i64 ((wStep m p q false).1.todo.length : Int) ∧ L' = [Hw', Hm', Hp'] ∧ WAt (wRun m p q).1 (wRun m p q).2 b bm bp Hw' Hm' Hp') := by
  have hS := Step_spec m p hi b bm bp Hw Hm Hp hw q hq aq cq rq hrq false
  have hi2 := wStep_inv hi hq false
  have hr : wRun m p q = wLoop q (wStep m p q false).1.todo.length (wStep m p q false) := rfl
  have hlim : (wStep m p q false).1.todo.length ≤ 1000000 := by
    have h1 := begin_todo p q ht
    have h2 := hi.inv.ok.2.2
    unfold wStep
    rw [if_pos ht]
    simp only
    omega
  rw [hr]
  generalize wStep m p q false = s at *
  obtain ⟨qo, qp, qf, ql, qd⟩ := q
  refine Ctr.enter (n := 24) [.tmp 4] [(0, _), (1, _)] Try.func10 rfl rfl rfl (lb rfl) Try.call10 ⟨rfl, rfl, trivial⟩ ?_
  intro cx fin fin0
  refine aG ?_
  repeat (first | refine gw ?_ | refine gN fun _ => ?_ | refine gB fun _ => ?_ | fail)
  rename_i b3
  refine aC (o := hS) (h := ?_)
  rintro _ _ ⟨Hw2, Hm2, Hp2, rfl, rfl, hw2⟩
  refine aG ?_
  repeat (first | refine gx ?_ | refine gN fun _ => ?_ | refine gB fun _ => ?_ | fail)
  refine aLp (fun k ρ1 L1 => ∃ (j : Nat) (Hw Hm Hp : HL), j ≤ s.1.todo.length ∧ k = s.1.todo.length - j ∧ WAt (wLoop ⟨qo, qp, qf, ql, qd⟩ j s).1 (wLoop ⟨qo, qp, qf, ql, qd⟩ j s).2 b bm bp Hw Hm Hp ∧ ρ1 = [(5, .int .i64 (j : Int)), (0, .pointer (some ⟨b, 0, none⟩)), (3, .pointer (some ⟨b3, 0, none⟩))] ∧ L1 = [Hw, Hm, Hp, [(b3, .cells #[.int .i64 qo, .int .i64 qp, .int .i64 qf, .int .i64 ql, .slice aq qd.length cq] 25 (0, 0))]]) (o := ⟨0, Hw2, Hm2, Hp2, Nat.zero_le _, rfl, hw2, rfl, rfl⟩) (h := ?_)
  rintro k ρ1 L1 ⟨j, Hw, Hm, Hp, hj, rfl, hw, rfl, rfl⟩
  have hlen := wLoop_todo ⟨qo, qp, qf, ql, qd⟩ s j hj
  have hi3 := wLoop_inv hq.u8 hi2 j hj
  have hS := Step0_spec _ _ hi3 b bm bp Hw Hm Hp hw ⟨qo, qp, qf, ql, qd⟩ (fun _ => hq) hq.u8 aq cq rq hrq false
  have hw2 := hw
  obtain ⟨a, c, r, at_, ct, rt, ag, cg, rg, D, rfl, h2, h3, h4, h5, h6, h7, h8, hm, hp⟩ := hw
  refine split2 rfl ?_
  refine aG ?_
  by_cases hlt : j < s.1.todo.length
  · have h1 : ((wLoop ⟨qo, qp, qf, ql, qd⟩ j s).1.todo.length : Int) > 0 := by omega
    repeat (first | refine gh h1 ?_ | refine gN fun _ => ?_ | refine gB fun _ => ?_ | fail)
    refine W.groupV [0, 0] rfl ?_
    refine aC (o := hS) (h := ?_)
    rintro _ _ ⟨Hw3, Hm3, Hp3, rfl, rfl, hw3⟩
    refine aG ?_
    repeat (first | refine gx ?_ | refine gN fun _ => ?_ | refine gB fun _ => ?_ | fail)
    refine aR (o := ⟨s.1.todo.length - (j + 1), by omega, j + 1, Hw3, Hm3, Hp3, by omega, rfl, hw3, rfl, rfl⟩)
  · have h1 : ¬ ((wLoop ⟨qo, qp, qf, ql, qd⟩ j s).1.todo.length : Int) > 0 := by omega
    obtain rfl : j = s.1.todo.length := by omega
    repeat (first | refine gh h1 ?_ | refine gN fun _ => ?_ | refine gB fun _ => ?_ | fail)
    refine W.groupV [0, 0] rfl ?_
    refine W.ret (fin _ _ (FinOk.first 3 (.tmp rfl .nil) rfl ?_))
    exact ⟨_, _, _, rfl, rfl, hw2⟩
end Go.Proofs.Ytgipjpiiomgjjaa
