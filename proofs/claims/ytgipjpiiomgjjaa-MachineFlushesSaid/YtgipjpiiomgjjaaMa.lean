/-
  The machine of the program: its state, Busy, Io, Stop, New; results; a page's sectors; Data.
-/
import Derived.Test.YtgipjpiiomgjjaaLb
import Derived.Test.YtgipjpiiomgjjaaTx
import Derived.Test.YtgipjpiiomgjjaaCa
import Derived.Test.YtgipjpiiomgjjaaDj
namespace Go.Proofs.Ytgipjpiiomgjjaa
open Go Go.Sl Go.IntWalk
set_option maxHeartbeats 4000000
set_option maxRecDepth 20000
/-- One operation, step by step. -/
structure Mc where
  op : Int
  page : Int
  to : Int
  todo : List Io
  got : List Int
def Mc.idle : Mc := ⟨0, 0, 0, [], []⟩
def mCells (m : Mc) (bp : Nat) (t g : Value) : List Value := [.pointer (some ⟨bp, 0, none⟩), .int .i64 m.op, .int .i64 m.page, t, .int .i64 m.to, g]
def MAt (m : Mc) (b bp : Nat) (H : HL) : Prop := ∃ a ct ag cg Ht Hg, H = [(b, Obj.cells (List.toArray [.pointer (some ⟨bp, 0, none⟩), .int .i64 m.op, .int .i64 m.page, .slice a m.todo.length ct, .int .i64 m.to, .slice ag m.got.length cg]) 88 (0, 0))] ++ (Ht ++ Hg) ∧
  RoSl 3 (ios m.todo) a m.todo.length Ht ∧ m.todo.length ≤ ct ∧ Own 1 5 (u8s m.got) ag m.got.length cg Hg
/-- What comes of a call. -/
structure Re where
  done : Bool
  errno : Int
  hit : Bool
  data : List Int
  add : C6
def C6.none : C6 := ⟨0, 0, 0, 0, 0, 0⟩
def Re.v (r : Re) (a : Option Addr) (n c : Nat) : Value := .agg #[.bool r.done, .int .i64 0, .int .i64 r.errno, .bool r.hit, .int .i64 0, .slice a n c, .int .u64 0, .int .u64 0, .int .u64 0, .int .u64 0, .int .u64 0, .int .u64 0,
  .int .u64 r.add.h, .int .u64 r.add.m, .int .u64 r.add.e, .int .u64 r.add.r, .int .u64 r.add.w, .int .u64 r.add.f]
theorem Busy_spec (m : Mc) (b bp : Nat) (H : HL) (hm : MAt m b bp H) : Ctr Try.prog 15 [.pointer (some ⟨b, 0, none⟩)] [] H (fun v L' => v = .bool (decide (0 < (m.todo.length : Int))) ∧ L' = []) := by
  obtain ⟨a, ct, ag, cg, Ht, Hg, rfl, hro, hct, hown⟩ := hm
  refine Ctr.enter (n := 9) [.tmp 2] [(0, _)] Try.func15 rfl rfl rfl (lb rfl) Try.call15 ⟨rfl, trivial⟩ ?_
  intro cx fin fin0
  refine aG ?_
  repeat (first | refine gw ?_ | refine gN fun _ => ?_ | refine gB fun _ => ?_ | fail)
  refine W.ret (fin _ _ (FinOk.mk' ([]) (.tmp rfl .nil) (by repeat (first | exact Sel.nil | (apply Sel.cons; (repeat (first | exact Pick.here | apply Pick.there))))) rfl ?_))
  exact ⟨rfl, rfl⟩
def Mc.io (m : Mc) : Io := m.todo.headD (0, 0, 0)
theorem Io_spec (m : Mc) (b bp : Nat) (H : HL) (hm : MAt m b bp H) : Ctr Try.prog 31 [.pointer (some ⟨b, 0, none⟩)] [] H (fun v L' => v = .tuple #[.agg (io3 m.io).toArray, .bool (decide (0 < (m.todo.length : Int)))] ∧ L' = []) := by
  have hB := Busy_spec m b bp H hm
  obtain ⟨a, ct, ag, cg, Ht, Hg, rfl, hro, hct, hown⟩ := hm
  obtain ⟨op, page, to, todo, got⟩ := m
  simp only at *
  refine Ctr.enter (n := 14) [.cell 2 83, .tmp 3] [(0, _)] Try.func31 rfl rfl rfl (lb rfl) Try.call31 ⟨rfl, trivial⟩ ?_
  intro cx fin fin0
  refine aG ?_
  repeat (first | refine gw ?_ | refine gN fun _ => ?_ | refine gB fun _ => ?_ | fail)
  refine aC (o := hB) (h := ?_) (hro := RoIn.same)
  rintro _ _ ⟨rfl, rfl⟩
  refine aG ?_
  cases todo with
  | nil =>
    refine aT ?_ (hb := by rfl)
    refine aBu (ps := []) ?_
    repeat (first | refine gw ?_ | refine gN fun _ => ?_ | refine gB fun _ => ?_ | fail)
    refine W.ret (fin _ _ (FinOk.mk' ([]) (aRc (.tmp rfl .nil)) (by repeat (first | exact Sel.nil | (apply Sel.cons; (repeat (first | exact Pick.here | apply Pick.there))))) rfl ?_))
    exact ⟨rfl, rfl⟩
  | cons x rest =>
    have h0 : 0 < (x :: rest).length := by simp
    obtain ⟨bx, ox, lx, ex, frx, rfl, rfl, hs, -⟩ := RoSl.at (f := io3) (m := 3) (fun _ => rfl) hro h0
    refine aF ?_
    repeat (first | refine gw ?_ | refine gN fun _ => ?_ | refine gB fun _ => ?_ | fail)
    refine aV (OpVal.ixSl tab_ok rfl rfl rfl rfl rfl h0) ?_
    refine aV (OpVal.loadN ty_83.1 ty_83.2 rfl (at_ro 1 rfl) hs) ?_
    repeat (first | refine gw ?_ | refine gN fun _ => ?_ | refine gB fun _ => ?_ | fail)
    refine W.ret (fin _ _ (FinOk.mk' ([]) (aRc (.tmp rfl .nil)) (by repeat (first | exact Sel.nil | (apply Sel.cons; (repeat (first | exact Pick.here | apply Pick.there))))) rfl ?_))
    refine ⟨?_, rfl⟩
    simp only [pack, Mc.io, List.headD_cons]
    simp [io3]
theorem Stop_spec (m : Mc) (b bp : Nat) (H : HL) (hm : MAt m b bp H) : Ctr Try.prog 21 [.pointer (some ⟨b, 0, none⟩)] [H] [] (fun _ L' => ∃ H', L' = [H'] ∧ MAt Mc.idle b bp H') := by
  obtain ⟨a, ct, ag, cg, Ht, Hg, rfl, hro, hct, hown⟩ := hm
  refine Ctr.enter (n := 9) [] [(0, _)] Try.func21 rfl rfl rfl (lb rfl) Try.call21 ⟨rfl, trivial⟩ ?_
  intro cx fin fin0
  refine aG ?_
  refine W.split3 rfl ?_
  refine aG ?_
  repeat (first | refine gw ?_ | refine gN fun _ => ?_ | refine gB fun _ => ?_ | fail)
  refine aBu (ps := [_]) ?_
  repeat (first | refine gw ?_ | refine gN fun _ => ?_ | refine gB fun _ => ?_ | fail)
  refine fin0 _ _ (FinOk.first 1 .nil rfl ?_)
  exact ⟨_, rfl, none, 0, none, 0, [], [], rfl, ⟨rfl, .inl ⟨rfl, rfl⟩⟩, Nat.le_refl _, Own.nil 1 _⟩
theorem MNew_spec (bp : Nat) : Ctr Try.prog 25 [.pointer (some ⟨bp, 0, none⟩)] [] [] (fun v L' => ∃ b H, v = .pointer (some ⟨b, 0, none⟩) ∧ L' = [H] ∧ MAt Mc.idle b bp H) := by
  refine Ctr.enter (n := 6) [.tmp 2] [(0, _)] Try.func25 rfl rfl rfl (lb rfl) Try.call25 ⟨rfl, trivial⟩ ?_
  intro cx fin fin0
  refine aG ?_
  refine aBu (ps := [_]) ?_
  repeat (first | refine gw ?_ | refine gN fun _ => ?_ | refine gB fun _ => ?_ | fail)
  refine W.ret (fin _ _ (FinOk.first 1 (.tmp rfl .nil) rfl ?_))
  exact ⟨_, _, rfl, rfl, none, 0, none, 0, [], [], rfl, ⟨rfl, .inl ⟨rfl, rfl⟩⟩, Nat.le_refl _, Own.nil 1 _⟩
def Re.dn (e : Int) : Re := ⟨true, e, false, [], C6.none⟩
theorem done_spec (e : Int) : Ctr Try.prog 32 [.int .i64 e] [] [] (fun v L' => v = (Re.dn e).v none 0 0 ∧ L' = []) := by
  refine Ctr.enter (n := 6) [.cell 2 52] [(0, _)] Try.func32 rfl rfl rfl (lb rfl) Try.call32 ⟨rfl, trivial⟩ ?_
  intro cx fin fin0
  refine aG ?_
  repeat (first | refine gw ?_ | refine gN fun _ => ?_ | refine gB fun _ => ?_ | fail)
  refine aBu (ps := [_]) ?_
  refine aBu (ps := [_, _]) ?_
  repeat (first | refine gw ?_ | refine gN fun _ => ?_ | refine gB fun _ => ?_ | fail)
  refine W.ret (fin _ _ (FinOk.mk' ([]) (aRc .nil) (by repeat (first | exact Sel.nil | (apply Sel.cons; (repeat (first | exact Pick.here | apply Pick.there))))) rfl ?_))
  exact ⟨rfl, rfl⟩
theorem counted_spec (e : Int) (bs : List Int) (a : Option Addr) (n c : Nat) (k : C6) : Ctr Try.prog 61 [.int .i64 e, .slice a n c, k.v] [] [] (fun v L' => v = (if e = 0 then (⟨true, 0, false, bs, k⟩ : Re).v a n c else (Re.dn e).v none 0 0) ∧ L' = []) := by
  have hd := done_spec e
  refine Ctr.enter (n := 15) [.cell 6 52] [(0, _), (1, _), (2, _)] Try.func61 rfl rfl rfl (lb rfl) Try.call61 ⟨rfl, rfl, rfl, trivial⟩ ?_
  intro cx fin fin0
  refine aG ?_
  repeat (first | refine gw ?_ | refine gN fun _ => ?_ | refine gB fun _ => ?_ | fail)
  by_cases h : e = 0
  · refine aF ?_ (hb := by exact gd h)
    refine aBu (ps := [_]) ?_
    repeat (first | refine gw ?_ | refine gN fun _ => ?_ | refine gB fun _ => ?_ | fail)
    refine aBu (ps := [_, _, _]) ?_
    repeat (first | refine gw ?_ | refine gN fun _ => ?_ | refine gB fun _ => ?_ | fail)
    refine W.ret (fin _ _ (FinOk.mk' ([]) (aRc .nil) (by repeat (first | exact Sel.nil | (apply Sel.cons; (repeat (first | exact Pick.here | apply Pick.there))))) rfl ?_))
    rw [if_pos h]
    exact ⟨rfl, rfl⟩
  · refine aT ?_ (hb := by exact gd h)
    refine aC (o := hd) (h := ?_)
    rintro _ _ ⟨rfl, rfl⟩
    refine aG ?_
    repeat (first | refine gw ?_ | refine gN fun _ => ?_ | refine gB fun _ => ?_ | fail)
    refine W.ret (fin _ _ (FinOk.mk' ([]) (aRc .nil) (by repeat (first | exact Sel.nil | (apply Sel.cons; (repeat (first | exact Pick.here | apply Pick.there))))) rfl ?_))
    rw [if_neg h]
    exact ⟨rfl, rfl⟩
/-- A page's two sectors, each in memory of its own. -/
theorem Split_spec (pg : List Int) (hl : pg.length = 32) (a : Option Addr) (cap : Nat) (hcap : 32 ≤ cap) (ro : HL) (hro : RoSl 1 (u8s pg) a 32 ro) :
    Ctr Try.prog 71 [.slice a 32 cap] [] ro (fun v L' => ∃ bs c b0 b1 l H0 H1, v = .tuple #[.slice (some ⟨bs, 0, none⟩) 2 c, .int .i64 0] ∧ L' = [[(bs, .cells (List.toArray l) 23 (0, 0))], H0, H1] ∧
      l.take 2 = [.slice (some ⟨b0, 0, none⟩) 16 16, .slice (some ⟨b1, 0, none⟩) 16 16] ∧ H0 = [(b0, .cells (u8s (pg.take 16)).toArray 5 (0, 0))] ∧ H1 = [(b1, .cells (u8s (pg.drop 16)).toArray 5 (0, 0))]) := by
  have h1 : (pg.take 16).length = 16 := by rw [List.length_take]; omega
  have h2 : (pg.drop 16).length = 16 := by rw [List.length_drop]; omega
  obtain ⟨bx, ox, lx, ex, frx, rfl, rfl, hlx, hcx⟩ : ∃ b off l e fr, a = some ⟨b, off, none⟩ ∧ ro = [(b, Obj.cells (List.toArray l) e fr)] ∧ off + 32 ≤ l.length ∧ (l.drop off).take 32 = u8s pg := by
    rcases hro.2 with ⟨h0, _⟩ | ⟨b, off, l, e, fr, q1, q2, q3, q4⟩
    · omega
    · exact ⟨b, off, l, e, fr, q1, q2, by omega, by rw [← q4]⟩
  have r1 : RoSl 1 (u8s (pg.take 16)) (some ⟨bx, ox, none⟩) 16 [(bx, .cells lx.toArray ex frx)] := by
    refine ⟨by rw [u8s_len, h1], .inr ⟨bx, ox, lx, ex, frx, rfl, rfl, by omega, ?_⟩⟩
    rw [← u8s_take, ← hcx, List.take_take]; rfl
  have r2 : RoSl 1 (u8s (pg.drop 16)) (some ⟨bx, ox + 16, none⟩) 16 [(bx, .cells lx.toArray ex frx)] := by
    refine ⟨by rw [u8s_len, h2], .inr ⟨bx, ox + 16, lx, ex, frx, rfl, rfl, by omega, ?_⟩⟩
    rw [← u8s_drop, ← hcx, List.drop_take, List.drop_drop]
  have O1 := own_spec (pg.take 16) (by omega) (some ⟨bx, ox, none⟩) cap _ (by rw [h1]; exact r1)
  have O2 := own_spec (pg.drop 16) (by omega) (some ⟨bx, ox + 16, none⟩) (cap - 16) _ (by rw [h2]; exact r2)
  rw [h1] at O1
  rw [h2] at O2
  refine Ctr.enter (n := 25) [.tmp 2, .tmp 3] [(0, _)] Try.func71 rfl rfl rfl (lb rfl) Try.call71 ⟨rfl, trivial⟩ ?_
  intro cx fin fin0
  refine aG ?_
  refine aF ?_ (hb := by rfl)
  refine W.nilChunk ?_
  refine aLp (fun m ρ1 L1 => ∃ j : Nat, m = 2 - j ∧ ((j = 0 ∧ ρ1 = [(9, .int .i64 0), (4, .slice none 0 0), (0, .slice (some ⟨bx, ox, none⟩) 32 cap)] ∧ L1 = [[]]) ∨ (j = 1 ∧ ∃ sa c Hs b0, ρ1 = [(9, .int .i64 1), (4, .slice sa 1 c), (0, .slice (some ⟨bx, ox, none⟩) 32 cap)] ∧ L1 = [Hs, [(b0, .cells (u8s (pg.take 16)).toArray 5 (0, 0))]] ∧ Own 1 23 [.slice (some ⟨b0, 0, none⟩) 16 16] sa 1 c Hs) ∨ (j = 2 ∧ ∃ sa c Hs b0 b1, ρ1 = [(9, .int .i64 2), (4, .slice sa 2 c), (0, .slice (some ⟨bx, ox, none⟩) 32 cap)] ∧ L1 = [Hs, [(b0, .cells (u8s (pg.take 16)).toArray 5 (0, 0))], [(b1, .cells (u8s (pg.drop 16)).toArray 5 (0, 0))]] ∧ Own 1 23 [.slice (some ⟨b0, 0, none⟩) 16 16, .slice (some ⟨b1, 0, none⟩) 16 16] sa 2 c Hs))) (o := ⟨0, rfl, .inl ⟨rfl, rfl, rfl⟩⟩) (h := ?_)
  rintro m ρ1 L1 ⟨j, rfl, ⟨rfl, rfl, rfl⟩ | ⟨rfl, sa, c, Hs, b0, rfl, rfl, hown⟩ | ⟨rfl, sa, c, Hs, b0, b1, rfl, rfl, hown⟩⟩
  · refine aG ?_
    refine aT ?_ (hb := by rfl)
    refine aV (OpVal.mul rfl rfl (i64_in _ (by omega))) ?_
    refine aV (OpVal.add rfl rfl (i64_in _ (by omega))) ?_
    refine aV (OpVal.mul rfl rfl (i64_in _ (by omega))) ?_
    refine aV (OpVal.pieceG (l := 0) (h := 16) (c := cap) tab_ok rfl rfl rfl ⟨_, rfl⟩ ⟨_, rfl⟩ rfl (by omega) (by omega) (by omega)) ?_
    have e0 : (if cap = 0 then ox else ox + 0 * 1) = ox := by split <;> omega
    rw [e0]
    refine aC (o := O1) (h := ?_)
    rintro _ _ ⟨b0, rfl, rfl⟩
    refine aG ?_
    refine aSl (ps := [_]) ?_
    intro bt
    refine aG ?_
    refine W.nilChunk ?_
    refine aAp (Own.nil 1 23) ?_
    rintro _ _ ⟨_, _, _, rfl, rfl, ho⟩
    refine aG ?_
    refine aV (OpVal.add rfl rfl (i64_in _ (by omega))) ?_
    refine aR (o := ⟨1, by omega, 1, rfl, .inr (.inl ⟨rfl, _, _, _, _, rfl, rfl, ho⟩)⟩)
  · refine aG ?_
    refine aT ?_ (hb := by rfl)
    refine aV (OpVal.mul rfl rfl (i64_in _ (by omega))) ?_
    refine aV (OpVal.add rfl rfl (i64_in _ (by omega))) ?_
    refine aV (OpVal.mul rfl rfl (i64_in _ (by omega))) ?_
    refine aV (OpVal.pieceG (l := 16) (h := 32) (c := cap) tab_ok rfl rfl rfl ⟨_, rfl⟩ ⟨_, rfl⟩ rfl (by omega) (by omega) (by omega)) ?_
    by_cases hc16 : cap = 16
    · omega
    rw [if_neg hc16]
    refine aC (o := O2) (h := ?_)
    rintro _ _ ⟨b1, rfl, rfl⟩
    refine aG ?_
    refine aSl (ps := [_]) ?_
    intro bt
    refine aG ?_
    refine aAp (hown) ?_
    rintro _ _ ⟨_, _, _, rfl, rfl, ho⟩
    refine aG ?_
    refine aV (OpVal.add rfl rfl (i64_in _ (by omega))) ?_
    refine aR (o := ⟨0, by omega, 2, rfl, .inr (.inr ⟨rfl, _, _, _, _, _, rfl, rfl, ho⟩)⟩)
  · refine aG ?_
    refine aF ?_ (hb := by rfl)
    obtain ⟨bs, l, rfl, rfl, q1, q2, q3⟩ := hown.some (by decide)
    refine W.ret (fin _ _ (FinOk.first 3 (.tmp rfl (.tmp rfl .nil)) rfl ?_))
    exact ⟨bs, _, b0, b1, l, _, _, rfl, rfl, q3, rfl, rfl⟩
def sect (bs : List Int) (k : Int) : List Int := if k = 0 then bs.take 16 else bs.drop 16
/-- What is stored. -/
def Mc.data (m : Mc) (p : Pt) : List Int := if m.todo.length = 0 then [] else if m.io.1 = 2 then (match mget p.tbl m.io.2.1 with | some i => sect (p.at_ i).b m.io.2.2 | none => []) else []
theorem MAt.head {m : Mc} {b bp : Nat} {H : HL} (h : MAt m b bp H) : ∃ t g : Value, (∃ a ct, t = .slice a m.todo.length ct) ∧ (∃ a ct, g = .slice a m.got.length ct) ∧ (b, Obj.cells (List.toArray [.pointer (some ⟨bp, 0, none⟩), .int .i64 m.op, .int .i64 m.page, t, .int .i64 m.to, g]) 88 (0, 0)) ∈ H := by
  obtain ⟨a, ct, ag, cg, Ht, Hg, rfl, -⟩ := h
  exact ⟨.slice a m.todo.length ct, .slice ag m.got.length cg, ⟨_, _, rfl⟩, ⟨_, _, rfl⟩, List.mem_append_left _ (List.mem_singleton.2 rfl)⟩
theorem Data_spec (m : Mc) (b bp : Nat) (H : HL) (hm : MAt m b bp H) (p : Pt) (hi : p.Inv) (Hp : HL) (hp : PtAt p bp Hp) (hk : m.io.1 = 2 → m.io.2.2 = 0 ∨ m.io.2.2 = 1) :
    Ctr Try.prog 38 [.pointer (some ⟨b, 0, none⟩)] [] (H ++ Hp) (fun v L' => ∃ a n c H', v = .slice a n c ∧ L' = [H'] ∧ RoSl 1 (u8s (m.data p)) a n H' ∧ (m.data p).length = n) := by
  have hI := Io_spec m b bp H hm
  obtain ⟨t, g, ⟨at_, ct, rfl⟩, ⟨ag, cg, rfl⟩, hb⟩ := hm.head
  have hF := Find_spec p bp Hp hp m.io.2.1
  have hat : ∀ L, At (H ++ Hp) L b _ := fun L => .inr (List.mem_append_left _ hb)
  have hA := fun i => PAt_spec p hi.ok bp Hp hp i
  have rH : ∀ {L}, RoIn (H ++ Hp) L H := RoIn.all fun q hq => List.mem_append_left _ hq
  have rP : ∀ {L}, RoIn (H ++ Hp) L Hp := RoIn.all fun q hq => List.mem_append_right _ hq
  have hdat : m.data p = m.data p := rfl
  conv at hdat => rhs; unfold Mc.data
  generalize m.data p = dat at *
  generalize m.io = x at *
  obtain ⟨xk, xp, xq⟩ := x
  simp only at *
  refine Ctr.enter (n := 52) [.tmp 2] [(0, _)] Try.func38 rfl rfl rfl (lb rfl) Try.call38 ⟨rfl, trivial⟩ ?_
  intro cx fin fin0
  refine aG ?_
  refine aC (o := hI) (h := ?_) (hro := rH)
  rintro _ _ ⟨rfl, rfl⟩
  refine aG ?_
  repeat (first | refine gw ?_ | refine gN fun _ => ?_ | refine gB fun _ => ?_ | fail)
  rename_i b3
  refine W.draw follows (by decide +kernel) (zG ?_)
  refine zV (OpVal.load tab_ok rfl (hat _) rfl) ?_
  repeat (first | refine zL ?_ | fail)
  refine zC (o := hF) (h := ?_) (hro := rP)
  refine WZ.nil (aG ?_)
  by_cases h1 : 0 < (m.todo.length : Int)
  · rw [if_neg (by omega)] at hdat
    by_cases h3 : xk = 2
    · rw [if_pos h3] at hdat
      cases hg : mget p.tbl xp with
      | none =>
        rw [hg] at hdat
        subst hdat
        repeat (first | refine gh (gc2 h1 h3) ?_ | refine gN fun _ => ?_ | refine gB fun _ => ?_ | fail)
        refine W.nilChunk ?_
        refine W.ret (fin _ _ (FinOk.first 1 (.tmp rfl .nil) rfl ?_))
        exact ⟨none, 0, 0, [], rfl, rfl, ⟨rfl, .inl ⟨rfl, rfl⟩⟩, rfl⟩
      | some i =>
        rw [hg] at hdat
        simp only at hdat
        obtain ⟨j, hj, rfl, hu, hpg⟩ := hi.tbl xp i hg
        have hfo : (p.at_ (j : Int)).Ok := by rw [Pt.at_nat hj]; exact hi.ok.1 _ (List.getElem_mem hj)
        have hAj := hA (j : Int)
        generalize p.at_ (j : Int) = f at *
        have h32 : f.b.length = 32 := hfo
        repeat (first | refine gh (gc2 h1 h3) ?_ | refine gN fun _ => ?_ | refine gB fun _ => ?_ | fail)
        refine aV (OpVal.load tab_ok rfl (hat _) rfl) ?_
        refine aC (o := hAj) (h := ?_) (hro := rP)
        rintro _ _ ⟨rfl, rfl⟩
        refine aG ?_
        refine aN ?_
        intro c1
        refine aG ?_
        refine W.store tab_ok rfl Upd.here rfl rfl rfl (Fr.l_len hfo) f.l_one (splice_all (by rw [Fr.l_len hfo]; rfl)) (aG ?_)
        refine aC (o := FBytes_spec f hfo c1) (h := ?_)
        rintro _ _ ⟨c2, rfl, rfl⟩
        refine aG ?_
        have hr2 : RoSl 1 (u8s f.b) (some ⟨c2, 0, none⟩) 32 [(c2, .cells (u8s f.b).toArray 56 (0, 0))] := by
          have := own_roT c2 f.b 56
          rwa [h32] at this
        refine aC (o := Split_spec f.b h32 (some ⟨c2, 0, none⟩) 32 (Nat.le_refl _) _ hr2) (h := ?_)
        rintro _ _ ⟨bs, c, b0, b1, l, H0, H1, rfl, rfl, q3, rfl, rfl⟩
        have l0 : l[0 + 0 * 1]? = some (.slice (some ⟨b0, 0, none⟩) 16 16) := by
          have := congrArg (·[0]?) q3
          simpa [List.getElem?_take] using this
        have l1 : l[0 + 1 * 1]? = some (.slice (some ⟨b1, 0, none⟩) 16 16) := by
          have := congrArg (·[1]?) q3
          simpa [List.getElem?_take] using this
        have n0 : (f.b.take 16).length = 16 := by rw [List.length_take]; omega
        have n1 : (f.b.drop 16).length = 16 := by rw [List.length_drop]; omega
        have R0 : ∀ (c : Nat) (q : List Int), q.length = 16 → RoSl 1 (u8s q) (some ⟨c, 0, none⟩) 16 [(c, .cells (u8s q).toArray 5 (0, 0))] := fun c q hq => by
          have := own_roT c q 5
          rwa [hq] at this
        refine aG ?_
        repeat (first | refine gw ?_ | refine gN fun _ => ?_ | refine gB fun _ => ?_ | fail)
        rcases hk h3 with rfl | rfl
        · refine aV (OpVal.ixSl tab_ok rfl rfl rfl rfl rfl (by decide)) ?_
          refine aV (OpVal.load tab_ok rfl (at_own 0 rfl) l0) ?_
          refine W.order [1] rfl ?_
          refine W.ret (fin _ _ (FinOk.first 1 (.tmp rfl .nil) rfl ?_))
          exact ⟨_, _, _, _, rfl, rfl, by rw [hdat]; exact R0 b0 _ n0, by rw [hdat]; exact n0⟩
        · refine aV (OpVal.ixSl tab_ok rfl rfl rfl rfl rfl (by decide)) ?_
          refine aV (OpVal.load tab_ok rfl (at_own 0 rfl) l1) ?_
          refine W.order [2] rfl ?_
          refine W.ret (fin _ _ (FinOk.first 1 (.tmp rfl .nil) rfl ?_))
          exact ⟨_, _, _, _, rfl, rfl, by rw [hdat]; exact R0 b1 _ n1, by rw [hdat]; exact n1⟩
    · rw [if_neg h3] at hdat
      subst hdat
      cases hg : mget p.tbl xp with
      | none =>
        repeat (first | refine gh (gc2 h1 h3) ?_ | refine gN fun _ => ?_ | refine gB fun _ => ?_ | fail)
        refine W.nilChunk ?_
        refine W.ret (fin _ _ (FinOk.first 1 (.tmp rfl .nil) rfl ?_))
        exact ⟨none, 0, 0, [], rfl, rfl, ⟨rfl, .inl ⟨rfl, rfl⟩⟩, rfl⟩
      | some i =>
        repeat (first | refine gh (gc2 h1 h3) ?_ | refine gN fun _ => ?_ | refine gB fun _ => ?_ | fail)
        refine W.nilChunk ?_
        refine W.ret (fin _ _ (FinOk.first 1 (.tmp rfl .nil) rfl ?_))
        exact ⟨none, 0, 0, [], rfl, rfl, ⟨rfl, .inl ⟨rfl, rfl⟩⟩, rfl⟩
  · rw [if_pos (by omega)] at hdat
    subst hdat
    repeat (first | refine gh h1 ?_ | refine gN fun _ => ?_ | refine gB fun _ => ?_ | fail)
    refine W.nilChunk ?_
    refine W.ret (fin _ _ (FinOk.first 1 (.tmp rfl .nil) rfl ?_))
    exact ⟨none, 0, 0, [], rfl, rfl, ⟨rfl, .inl ⟨rfl, rfl⟩⟩, rfl⟩
end Go.Proofs.Ytgipjpiiomgjjaa
