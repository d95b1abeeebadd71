/-
  The walks of this claim and the rules that they use, part three: each theorem is a contract of one function, or what such a proof asks.
-/
import Derived.Test.YtfpghdcjdnifcaaGreatP2
import Derived.Maps.RangeRun
import Derived.IntWalk
import Derived.Shelf.Sort.Plain
import Derived.Shelf.Slices.In.SortNone
import Derived.Test.YtfpghdcjdnifcaaGreatProg
namespace Go.Proofs.YtfpghdcjdnifcaaGreat
open Go Go.Sl Go.IntWalk
set_option maxHeartbeats 4000000
set_option maxRecDepth 20000
structure Mc where
 op : Int
 page : Int
 to : Int
 todo : List Io
 got : List Int
def Mc.idle : Mc := ⟨0, 0, 0, [], []⟩
def MAt (m : Mc) (b bp : Nat) (H : HL) : Prop := ∃ a ct ag cg Ht Hg, H = [(b, Obj.cells (List.toArray [.pointer (some ⟨bp, 0, none⟩), .int .i64 m.op, .int .i64 m.page, .slice a m.todo.length ct, .int .i64 m.to, .slice ag m.got.length cg]) 320 (0, 0))] ++ (Ht ++ Hg) ∧
 RoSl 3 (ios m.todo) a m.todo.length Ht ∧ m.todo.length ≤ ct ∧ Own 1 5 (u8s m.got) ag m.got.length cg Hg
structure Re where
 done : Bool
 errno : Int
 hit : Bool
 data : List Int
 add : C6
def C6.none : C6 := ⟨0, 0, 0, 0, 0, 0⟩
def Re.v (r : Re) (a : Option Addr) (n c : Nat) : Value := .agg #[.bool r.done, .int .i64 0, .int .i64 r.errno, .bool r.hit, .int .i64 0, .slice a n c, .int .u64 0, .int .u64 0, .int .u64 0, .int .u64 0, .int .u64 0, .int .u64 0,
 .int .u64 r.add.h, .int .u64 r.add.m, .int .u64 r.add.e, .int .u64 r.add.r, .int .u64 r.add.w, .int .u64 r.add.f]
theorem Busy_spec (m : Mc) (b bp : Nat) (H : HL) (hm : MAt m b bp H) : Ctr Tryz.prog 227 [.pointer (some ⟨b, 0, none⟩)] [] H (fun v L' => v = .bool (decide (0 < (m.todo.length : Int))) ∧ L' = []) := by
 obtain ⟨a, ct, ag, cg, Ht, Hg, rfl, hro, hct, hown⟩ := hm
 refine Ctr.enter (n := 9) [.tmp 2] [(0, _)] Tryz.func227 rfl rfl rfl (lb rfl) Tryz.call227 ⟨rfl, trivial⟩ ?_
 intro cx fin fin0
 refine aG ?_
 repeat refine gw ?_
 refine W.ret (fin _ _ (FinOk.mk' ([]) (.tmp rfl .nil) (by repeat (first | exact Sel.nil | (apply Sel.cons; (repeat (first | exact Pick.here | apply Pick.there))))) rfl ?_))
 exact ⟨rfl, rfl⟩
def Mc.io (m : Mc) : Io := m.todo.headD (0, 0, 0)
theorem Io_spec (m : Mc) (b bp : Nat) (H : HL) (hm : MAt m b bp H) : Ctr Tryz.prog 170 [.pointer (some ⟨b, 0, none⟩)] [] H (fun v L' => v = .tuple #[.agg (io3 m.io).toArray, .bool (decide (0 < (m.todo.length : Int)))] ∧ L' = []) := by
 have hB := Busy_spec m b bp H hm
 obtain ⟨a, ct, ag, cg, Ht, Hg, rfl, hro, hct, hown⟩ := hm
 obtain ⟨op, page, to, todo, got⟩ := m
 simp only at *
 refine Ctr.enter (n := 14) [.cell 2 273, .tmp 3] [(0, _)] Tryz.func170 rfl rfl rfl (lb rfl) Tryz.call170 ⟨rfl, trivial⟩ ?_
 intro cx fin fin0
 refine aG ?_
 repeat (first | refine gw ?_ | refine gN fun _ => ?_ | refine gB fun _ => ?_ | fail)
 refine aC (o := hB) (h := ?_) (hro := RoIn.same)
 rintro _ _ ⟨rfl, rfl⟩
 refine aG ?_
 cases todo with
 | nil =>
  refine aT ?_ (hb := by rfl)
  refine aBu (ps := []) ?_
  repeat refine gw ?_
  refine W.ret (fin _ _ (FinOk.mk' ([]) (aRc (.tmp rfl .nil)) (by repeat (first | exact Sel.nil | (apply Sel.cons; (repeat (first | exact Pick.here | apply Pick.there))))) rfl ?_))
  exact ⟨rfl, rfl⟩
 | cons x rest =>
  have h0 : 0 < (x :: rest).length := by simp
  obtain ⟨bx, ox, lx, ex, frx, rfl, rfl, hs, -⟩ := RoSl.at (f := io3) (m := 3) (fun _ => rfl) hro h0
  refine aF ?_
  repeat refine gw ?_
  refine aV (OpVal.ixSl tab_ok rfl rfl rfl rfl rfl h0) ?_
  refine aV (OpVal.loadN ty_273.1 ty_273.2 rfl (at_ro 1 rfl) hs) ?_
  repeat refine gw ?_
  refine W.ret (fin _ _ (FinOk.mk' ([]) (aRc (.tmp rfl .nil)) (by repeat (first | exact Sel.nil | (apply Sel.cons; (repeat (first | exact Pick.here | apply Pick.there))))) rfl ?_))
  refine ⟨?_, rfl⟩
  simp only [pack, Mc.io, List.headD_cons]
  simp [io3]
theorem Stop_spec (m : Mc) (b bp : Nat) (H : HL) (hm : MAt m b bp H) : Ctr Tryz.prog 187 [.pointer (some ⟨b, 0, none⟩)] [H] [] (fun _ L' => ∃ H', L' = [H'] ∧ MAt Mc.idle b bp H') := by
 obtain ⟨a, ct, ag, cg, Ht, Hg, rfl, hro, hct, hown⟩ := hm
 refine Ctr.enter (n := 9) [] [(0, _)] Tryz.func187 rfl rfl rfl (lb rfl) Tryz.call187 ⟨rfl, trivial⟩ ?_
 intro cx fin fin0
 refine aG ?_
 refine W.split3 rfl ?_
 refine aG ?_
 repeat refine gw ?_
 refine aBu (ps := [_]) ?_
 repeat refine gw ?_
 refine fin0 _ _ (FinOk.first 1 .nil rfl ?_)
 exact ⟨_, rfl, none, 0, none, 0, [], [], rfl, ⟨rfl, .inl ⟨rfl, rfl⟩⟩, Nat.le_refl _, Own.nil 1 _⟩
theorem MNew_spec (bp : Nat) : Ctr Tryz.prog 146 [.pointer (some ⟨bp, 0, none⟩)] [] [] (fun v L' => ∃ b H, v = .pointer (some ⟨b, 0, none⟩) ∧ L' = [H] ∧ MAt Mc.idle b bp H) := by
 refine Ctr.enter (n := 6) [.tmp 2] [(0, _)] Tryz.func146 rfl rfl rfl (lb rfl) Tryz.call146 ⟨rfl, trivial⟩ ?_
 intro cx fin fin0
 refine aG ?_
 refine aBu (ps := [_]) ?_
 repeat (first | refine gw ?_ | refine gN fun _ => ?_ | refine gB fun _ => ?_ | fail)
 refine W.ret (fin _ _ (FinOk.first 1 (.tmp rfl .nil) rfl ?_))
 exact ⟨_, _, rfl, rfl, none, 0, none, 0, [], [], rfl, ⟨rfl, .inl ⟨rfl, rfl⟩⟩, Nat.le_refl _, Own.nil 1 _⟩
def Re.dn (e : Int) : Re := ⟨true, e, false, [], C6.none⟩
theorem done_spec (e : Int) : Ctr Tryz.prog 265 [.int .i64 e] [] [] (fun v L' => v = (Re.dn e).v none 0 0 ∧ L' = []) := by
 refine Ctr.enter (n := 6) [.cell 2 350] [(0, _)] Tryz.func265 rfl rfl rfl (lb rfl) Tryz.call265 ⟨rfl, trivial⟩ ?_
 intro cx fin fin0
 refine aG ?_
 repeat (first | refine gw ?_ | refine gN fun _ => ?_ | refine gB fun _ => ?_ | fail)
 refine aBu (ps := [_]) ?_
 refine aBu (ps := [_, _]) ?_
 repeat refine gw ?_
 refine W.ret (fin _ _ (FinOk.mk' ([]) (aRc .nil) (by repeat (first | exact Sel.nil | (apply Sel.cons; (repeat (first | exact Pick.here | apply Pick.there))))) rfl ?_))
 exact ⟨rfl, rfl⟩
theorem counted_spec (e : Int) (bs : List Int) (a : Option Addr) (n c : Nat) (k : C6) : Ctr Tryz.prog 292 [.int .i64 e, .slice a n c, k.v] [] [] (fun v L' => v = (if e = 0 then (⟨true, 0, false, bs, k⟩ : Re).v a n c else (Re.dn e).v none 0 0) ∧ L' = []) := by
 have hd := done_spec e
 refine Ctr.enter (n := 15) [.cell 6 350] [(0, _), (1, _), (2, _)] Tryz.func292 rfl rfl rfl (lb rfl) Tryz.call292 ⟨rfl, rfl, rfl, trivial⟩ ?_
 intro cx fin fin0
 refine aG ?_
 repeat (first | refine gw ?_ | refine gN fun _ => ?_ | refine gB fun _ => ?_ | fail)
 by_cases h : e = 0
 ·
  refine aF ?_ (hb := by exact gd h)
  refine aBu (ps := [_]) ?_
  repeat refine gw ?_
  refine aBu (ps := [_, _, _]) ?_
  repeat refine gw ?_
  refine W.ret (fin _ _ (FinOk.mk' ([]) (aRc .nil) (by repeat (first | exact Sel.nil | (apply Sel.cons; (repeat (first | exact Pick.here | apply Pick.there))))) rfl ?_))
  rw [if_pos h]
  exact ⟨rfl, rfl⟩
 ·
  refine aT ?_ (hb := by exact gd h)
  refine aC (o := hd) (h := ?_)
  rintro _ _ ⟨rfl, rfl⟩
  refine aG ?_
  repeat refine gw ?_
  refine W.ret (fin _ _ (FinOk.mk' ([]) (aRc .nil) (by repeat (first | exact Sel.nil | (apply Sel.cons; (repeat (first | exact Pick.here | apply Pick.there))))) rfl ?_))
  rw [if_neg h]
  exact ⟨rfl, rfl⟩
theorem Split_spec (pg : List Int) (hl : pg.length = 32) (a : Option Addr) (cap : Nat) (hcap : 32 ≤ cap) (ro : HL) (hro : RoSl 1 (u8s pg) a 32 ro) :
  Ctr Tryz.prog 236 [.slice a 32 cap] [] ro (fun v L' => ∃ bs c b0 b1 l H0 H1, v = .tuple #[.slice (some ⟨bs, 0, none⟩) 2 c, .int .i64 0] ∧ L' = [[(bs, .cells (List.toArray l) 54 (0, 0))], H0, H1] ∧
   l.take 2 = [.slice (some ⟨b0, 0, none⟩) 16 16, .slice (some ⟨b1, 0, none⟩) 16 16] ∧ H0 = [(b0, .cells (u8s (pg.take 16)).toArray 5 (0, 0))] ∧ H1 = [(b1, .cells (u8s (pg.drop 16)).toArray 5 (0, 0))]) := by
 have h1 : (pg.take 16).length = 16 := by rw [List.length_take]; omega
 have h2 : (pg.drop 16).length = 16 := by rw [List.length_drop]; omega
 obtain ⟨bx, ox, lx, ex, frx, rfl, rfl, hlx, hcx⟩ : ∃ b off l e fr, a = some ⟨b, off, none⟩ ∧ ro = [(b, Obj.cells (List.toArray l) e fr)] ∧ off + 32 ≤ l.length ∧ (l.drop off).take 32 = u8s pg := by
  rcases hro.2 with ⟨h0, _⟩ | ⟨b, off, l, e, fr, q1, q2, q3, q4⟩
  · omega
  · exact ⟨b, off, l, e, fr, q1, q2, by omega, by rw [← q4]⟩
 have r1 : RoSl 1 (u8s (pg.take 16)) (some ⟨bx, ox, none⟩) 16 [(bx, .cells lx.toArray ex frx)] := by
  refine ⟨by rw [u8s_len, h1], .inr ⟨bx, ox, lx, ex, frx, rfl, rfl, by omega, ?_⟩⟩
  rw [← u8s_take, ← hcx, List.take_take]; rfl
 have r2 : RoSl 1 (u8s (pg.drop 16)) (some ⟨bx, ox + 16, none⟩) 16 [(bx, .cells lx.toArray ex frx)] := by
  refine ⟨by rw [u8s_len, h2], .inr ⟨bx, ox + 16, lx, ex, frx, rfl, rfl, by omega, ?_⟩⟩
  rw [← u8s_drop, ← hcx, List.drop_take, List.drop_drop]
 have O1 := own_spec (pg.take 16) (by omega) (some ⟨bx, ox, none⟩) cap _ (by rw [h1]; exact r1)
 have O2 := own_spec (pg.drop 16) (by omega) (some ⟨bx, ox + 16, none⟩) (cap - 16) _ (by rw [h2]; exact r2)
 rw [h1] at O1
 rw [h2] at O2
 refine Ctr.enter (n := 25) [.tmp 2, .tmp 3] [(0, _)] Tryz.func236 rfl rfl rfl (lb rfl) Tryz.call236 ⟨rfl, trivial⟩ ?_
 intro cx fin fin0
 refine aG ?_
 refine aF ?_ (hb := by rfl)
 refine W.nilChunk ?_
 refine aLp (fun m ρ1 L1 => ∃ j : Nat, m = 2 - j ∧ ((j = 0 ∧ ρ1 = [(9, .int .i64 0), (4, .slice none 0 0), (0, .slice (some ⟨bx, ox, none⟩) 32 cap)] ∧ L1 = [[]]) ∨ (j = 1 ∧ ∃ sa c Hs b0, ρ1 = [(9, .int .i64 1), (4, .slice sa 1 c), (0, .slice (some ⟨bx, ox, none⟩) 32 cap)] ∧ L1 = [Hs, [(b0, .cells (u8s (pg.take 16)).toArray 5 (0, 0))]] ∧ Own 1 54 [.slice (some ⟨b0, 0, none⟩) 16 16] sa 1 c Hs) ∨ (j = 2 ∧ ∃ sa c Hs b0 b1, ρ1 = [(9, .int .i64 2), (4, .slice sa 2 c), (0, .slice (some ⟨bx, ox, none⟩) 32 cap)] ∧ L1 = [Hs, [(b0, .cells (u8s (pg.take 16)).toArray 5 (0, 0))], [(b1, .cells (u8s (pg.drop 16)).toArray 5 (0, 0))]] ∧ Own 1 54 [.slice (some ⟨b0, 0, none⟩) 16 16, .slice (some ⟨b1, 0, none⟩) 16 16] sa 2 c Hs))) (o := ⟨0, rfl, .inl ⟨rfl, rfl, rfl⟩⟩) (h := ?_)
 rintro m ρ1 L1 ⟨j, rfl, ⟨rfl, rfl, rfl⟩ | ⟨rfl, sa, c, Hs, b0, rfl, rfl, hown⟩ | ⟨rfl, sa, c, Hs, b0, b1, rfl, rfl, hown⟩⟩
 ·
  refine aG ?_
  refine aT ?_ (hb := by rfl)
  refine aV (OpVal.mul rfl rfl (i64_in _ (by omega))) ?_
  refine aV (OpVal.add rfl rfl (i64_in _ (by omega))) ?_
  refine aV (OpVal.mul rfl rfl (i64_in _ (by omega))) ?_
  refine aV (OpVal.pieceG (l := 0) (h := 16) (c := cap) tab_ok rfl rfl rfl ⟨_, rfl⟩ ⟨_, rfl⟩ rfl (by omega) (by omega) (by omega)) ?_
  have e0 : (if cap = 0 then ox else ox + 0 * 1) = ox := by split <;> omega
  rw [e0]
  refine aC (o := O1) (h := ?_)
  rintro _ _ ⟨b0, rfl, rfl⟩
  refine aG ?_
  refine aSl (ps := [_]) ?_
  intro bt
  refine aG ?_
  refine W.nilChunk ?_
  refine aAp (Own.nil 1 54) ?_
  rintro _ _ ⟨_, _, _, rfl, rfl, ho⟩
  refine aG ?_
  refine aV (OpVal.add rfl rfl (i64_in _ (by omega))) ?_
  refine aR (o := ⟨1, by omega, 1, rfl, .inr (.inl ⟨rfl, _, _, _, _, rfl, rfl, ho⟩)⟩)
 ·
  refine aG ?_
  refine aT ?_ (hb := by rfl)
  refine aV (OpVal.mul rfl rfl (i64_in _ (by omega))) ?_
  refine aV (OpVal.add rfl rfl (i64_in _ (by omega))) ?_
  refine aV (OpVal.mul rfl rfl (i64_in _ (by omega))) ?_
  refine aV (OpVal.pieceG (l := 16) (h := 32) (c := cap) tab_ok rfl rfl rfl ⟨_, rfl⟩ ⟨_, rfl⟩ rfl (by omega) (by omega) (by omega)) ?_
  by_cases hc16 : cap = 16
  · omega
  rw [if_neg hc16]
  refine aC (o := O2) (h := ?_)
  rintro _ _ ⟨b1, rfl, rfl⟩
  refine aG ?_
  refine aSl (ps := [_]) ?_
  intro bt
  refine aG ?_
  refine aAp (hown) ?_
  rintro _ _ ⟨_, _, _, rfl, rfl, ho⟩
  refine aG ?_
  refine aV (OpVal.add rfl rfl (i64_in _ (by omega))) ?_
  refine aR (o := ⟨0, by omega, 2, rfl, .inr (.inr ⟨rfl, _, _, _, _, _, rfl, rfl, ho⟩)⟩)
 ·
  refine aG ?_
  refine aF ?_ (hb := by rfl)
  obtain ⟨bs, l, rfl, rfl, q1, q2, q3⟩ := hown.some (by decide)
  refine W.ret (fin _ _ (FinOk.first 3 (.tmp rfl (.tmp rfl .nil)) rfl ?_))
  exact ⟨bs, _, b0, b1, l, _, _, rfl, rfl, q3, rfl, rfl⟩
def sect (bs : List Int) (k : Int) : List Int := if k = 0 then bs.take 16 else bs.drop 16
def Mc.data (m : Mc) (p : Pt) : List Int := if m.todo.length = 0 then [] else if m.io.1 = 2 then (match mget p.tbl m.io.2.1 with | some i => sect (p.at_ i).b m.io.2.2 | none => []) else []
theorem MAt.head {m : Mc} {b bp : Nat} {H : HL} (h : MAt m b bp H) : ∃ t g : Value, (∃ a ct, t = .slice a m.todo.length ct) ∧ (∃ a ct, g = .slice a m.got.length ct) ∧ (b, Obj.cells (List.toArray [.pointer (some ⟨bp, 0, none⟩), .int .i64 m.op, .int .i64 m.page, t, .int .i64 m.to, g]) 320 (0, 0)) ∈ H := by
 obtain ⟨a, ct, ag, cg, Ht, Hg, rfl, -⟩ := h
 exact ⟨.slice a m.todo.length ct, .slice ag m.got.length cg, ⟨_, _, rfl⟩, ⟨_, _, rfl⟩, List.mem_append_left _ (List.mem_singleton.2 rfl)⟩
theorem Data_spec (m : Mc) (b bp : Nat) (H : HL) (hm : MAt m b bp H) (p : Pt) (hi : p.Inv) (Hp : HL) (hp : PtAt p bp Hp) (hk : m.io.1 = 2 → m.io.2.2 = 0 ∨ m.io.2.2 = 1) :
  Ctr Tryz.prog 178 [.pointer (some ⟨b, 0, none⟩)] [] (H ++ Hp) (fun v L' => ∃ a n c H', v = .slice a n c ∧ L' = [H'] ∧ RoSl 1 (u8s (m.data p)) a n H' ∧ (m.data p).length = n) := by
 have hI := Io_spec m b bp H hm
 obtain ⟨t, g, ⟨at_, ct, rfl⟩, ⟨ag, cg, rfl⟩, hb⟩ := hm.head
 have hF := Find_spec p bp Hp hp m.io.2.1
 have hat : ∀ L, At (H ++ Hp) L b _ := fun L => .inr (List.mem_append_left _ hb)
 have hA := fun i => PAt_spec p hi.ok bp Hp hp i
 have rH : ∀ {L}, RoIn (H ++ Hp) L H := RoIn.all fun q hq => List.mem_append_left _ hq
 have rP : ∀ {L}, RoIn (H ++ Hp) L Hp := RoIn.all fun q hq => List.mem_append_right _ hq
 have hdat : m.data p = m.data p := rfl
 conv at hdat => rhs; unfold Mc.data
 generalize m.data p = dat at *
 generalize m.io = x at *
 obtain ⟨xk, xp, xq⟩ := x
 simp only at *
 refine Ctr.enter (n := 52) [.tmp 2] [(0, _)] Tryz.func178 rfl rfl rfl (lb rfl) Tryz.call178 ⟨rfl, trivial⟩ ?_
 intro cx fin fin0
 refine aG ?_
 refine aC (o := hI) (h := ?_) (hro := rH)
 rintro _ _ ⟨rfl, rfl⟩
 refine aG ?_
 repeat (first | refine gw ?_ | refine gN fun _ => ?_ | refine gB fun _ => ?_ | fail)
 rename_i b3
 refine W.draw follows (by decide +kernel) (zG ?_)
 refine zV (OpVal.load tab_ok rfl (hat _) rfl) ?_
 repeat (first | refine zL ?_ | fail)
 refine zC (o := hF) (h := ?_) (hro := rP)
 refine WZ.nil (aG ?_)
 by_cases h1 : 0 < (m.todo.length : Int)
 ·
  rw [if_neg (by omega)] at hdat
  by_cases h3 : xk = 2
  ·
   rw [if_pos h3] at hdat
   cases hg : mget p.tbl xp with
   | none =>
    rw [hg] at hdat
    subst hdat
    repeat refine gh (gc2 h1 h3) ?_
    refine W.nilChunk ?_
    refine W.ret (fin _ _ (FinOk.first 1 (.tmp rfl .nil) rfl ?_))
    exact ⟨none, 0, 0, [], rfl, rfl, ⟨rfl, .inl ⟨rfl, rfl⟩⟩, rfl⟩
   | some i =>
    rw [hg] at hdat
    simp only at hdat
    obtain ⟨j, hj, rfl, hu, hpg⟩ := hi.tbl xp i hg
    have hfo : (p.at_ (j : Int)).Ok := by rw [Pt.at_nat hj]; exact hi.ok.1 _ (List.getElem_mem hj)
    have hAj := hA (j : Int)
    generalize p.at_ (j : Int) = f at *
    have h32 : f.b.length = 32 := hfo
    repeat refine gh (gc2 h1 h3) ?_
    refine aV (OpVal.load tab_ok rfl (hat _) rfl) ?_
    refine aC (o := hAj) (h := ?_) (hro := rP)
    rintro _ _ ⟨rfl, rfl⟩
    refine aG ?_
    refine aN ?_
    intro c1
    refine aG ?_
    refine W.store tab_ok rfl Upd.here rfl rfl rfl (Fr.l_len hfo) f.l_one (splice_all (by rw [Fr.l_len hfo]; rfl)) (aG ?_)
    refine aC (o := FBytes_spec f hfo c1) (h := ?_)
    rintro _ _ ⟨c2, rfl, rfl⟩
    refine aG ?_
    have hr2 : RoSl 1 (u8s f.b) (some ⟨c2, 0, none⟩) 32 [(c2, .cells (u8s f.b).toArray 326 (0, 0))] := by
     have := own_roT c2 f.b 326
     rwa [h32] at this
    refine aC (o := Split_spec f.b h32 (some ⟨c2, 0, none⟩) 32 (Nat.le_refl _) _ hr2) (h := ?_)
    rintro _ _ ⟨bs, c, b0, b1, l, H0, H1, rfl, rfl, q3, rfl, rfl⟩
    have l0 : l[0 + 0 * 1]? = some (.slice (some ⟨b0, 0, none⟩) 16 16) := by
     have := congrArg (·[0]?) q3
     simpa [List.getElem?_take] using this
    have l1 : l[0 + 1 * 1]? = some (.slice (some ⟨b1, 0, none⟩) 16 16) := by
     have := congrArg (·[1]?) q3
     simpa [List.getElem?_take] using this
    have n0 : (f.b.take 16).length = 16 := by rw [List.length_take]; omega
    have n1 : (f.b.drop 16).length = 16 := by rw [List.length_drop]; omega
    have R0 : ∀ (c : Nat) (q : List Int), q.length = 16 → RoSl 1 (u8s q) (some ⟨c, 0, none⟩) 16 [(c, .cells (u8s q).toArray 5 (0, 0))] := fun c q hq => by
     have := own_roT c q 5
     rwa [hq] at this
    refine aG ?_
    repeat refine gw ?_
    rcases hk h3 with rfl | rfl
    ·
     refine aV (OpVal.ixSl tab_ok rfl rfl rfl rfl rfl (by decide)) ?_
     refine aV (OpVal.load tab_ok rfl (at_own 0 rfl) l0) ?_
     refine W.order [1] rfl ?_
     refine W.ret (fin _ _ (FinOk.first 1 (.tmp rfl .nil) rfl ?_))
     exact ⟨_, _, _, _, rfl, rfl, by rw [hdat]; exact R0 b0 _ n0, by rw [hdat]; exact n0⟩
    ·
     refine aV (OpVal.ixSl tab_ok rfl rfl rfl rfl rfl (by decide)) ?_
     refine aV (OpVal.load tab_ok rfl (at_own 0 rfl) l1) ?_
     refine W.order [2] rfl ?_
     refine W.ret (fin _ _ (FinOk.first 1 (.tmp rfl .nil) rfl ?_))
     exact ⟨_, _, _, _, rfl, rfl, by rw [hdat]; exact R0 b1 _ n1, by rw [hdat]; exact n1⟩
  ·
   rw [if_neg h3] at hdat
   subst hdat
   cases hg : mget p.tbl xp with
   | none =>
    repeat refine gh (gc2 h1 h3) ?_
    refine W.nilChunk ?_
    refine W.ret (fin _ _ (FinOk.first 1 (.tmp rfl .nil) rfl ?_))
    exact ⟨none, 0, 0, [], rfl, rfl, ⟨rfl, .inl ⟨rfl, rfl⟩⟩, rfl⟩
   | some i =>
    repeat refine gh (gc2 h1 h3) ?_
    refine W.nilChunk ?_
    refine W.ret (fin _ _ (FinOk.first 1 (.tmp rfl .nil) rfl ?_))
    exact ⟨none, 0, 0, [], rfl, rfl, ⟨rfl, .inl ⟨rfl, rfl⟩⟩, rfl⟩
 ·
  rw [if_pos (by omega)] at hdat
  subst hdat
  repeat refine gh h1 ?_
  refine W.nilChunk ?_
  refine W.ret (fin _ _ (FinOk.first 1 (.tmp rfl .nil) rfl ?_))
  exact ⟨none, 0, 0, [], rfl, rfl, ⟨rfl, .inl ⟨rfl, rfl⟩⟩, rfl⟩
end Go.Proofs.YtfpghdcjdnifcaaGreat
namespace Go.Proofs.YtfpghdcjdnifcaaGreat
open Go Go.Sl Go.IntWalk
set_option maxHeartbeats 8000000
set_option maxRecDepth 20000
structure Rq where
 op : Int
 page : Int
 off : Int
 len : Int
 data : List Int
 deriving DecidableEq
def Rq.v (q : Rq) (a : Option Addr) (c : Nat) : Value := .agg #[.int .i64 q.op, .int .i64 q.page, .int .i64 q.off, .int .i64 q.len, .slice a q.data.length c]
def mMiss (m : Mc) (p : Pt) : Mc × Pt × Re := match p.victim.2 with
 | none => (m, p.victim.1, ⟨true, 7, false, [], ⟨0, 1, 0, 0, 0, 0⟩⟩)
 | some i => (⟨m.op, m.page, (i : Int), planFetch m.page (p.victim.1.at_ i).dirty (p.victim.1.at_ i).page, m.got⟩,
   if (p.victim.1.at_ i).used = true ∧ (p.victim.1.at_ i).dirty = false then (p.victim.1.release i).1 else p.victim.1,
   ⟨false, 0, false, [], ⟨0, 1, if (p.victim.1.at_ i).used = true ∧ (p.victim.1.at_ i).dirty = false then 1 else 0, 0, 0, 0⟩⟩)
def mFetch (m : Mc) (p : Pt) : Mc × Pt × Re :=
 if (mget p.tbl m.page).isSome = true then (m, (p.doPage m.page Fr.pin).1, if (p.doPage m.page Fr.pin).2 = 0 then ⟨true, 0, true, [], ⟨1, 0, 0, 0, 0, 0⟩⟩ else Re.dn (p.doPage m.page Fr.pin).2) else mMiss m p
theorem _root_.Go.Sl.Own.cap_le {m e : Nat} {cs : List Value} {a : Option Addr} {len cap : Nat} {H : HL} (h : Own m e cs a len cap H) : len ≤ cap := by rcases h.2 with ⟨_, h1, h2, _⟩ | ⟨_, _, _, _, h, _⟩ <;> omega
theorem plan_len (page old : Int) (d : Bool) : (planFetch page d old).length ≤ 4 := by cases d <;> exact Nat.le_of_ble_eq_true rfl
theorem at_ok {p : Pt} (hi : p.Inv) (i : Int) : (p.at_ i).Ok := by
 unfold Pt.at_
 split
 ·
  rename_i h
  rw [List.getD_eq_getElem?_getD, List.getElem?_eq_getElem (show i.toNat < p.fs.length by omega), Option.getD_some]
  exact hi.ok.1 _ (List.getElem_mem _)
 · exact Fr.zero_ok
theorem fetch_spec (m : Mc) (b bp : Nat) (H : HL) (hm : MAt m b bp H) (p : Pt) (hi : p.Inv) (Hp : HL) (hp : PtAt p bp Hp) (q : Rq) (hq : q.page = m.page) (aq : Option Addr) (cq : Nat) :
  Ctr Tryz.prog 289 [.pointer (some ⟨b, 0, none⟩), q.v aq cq] [H, Hp] [] (fun v L' => ∃ H' Hp', v = (mFetch m p).2.2.v none 0 0 ∧ L' = [H', Hp'] ∧ MAt (mFetch m p).1 b bp H' ∧ PtAt (mFetch m p).2.1 bp Hp') := by
 have hF := Find_spec p bp Hp hp m.page
 have hP := PPin_spec p hi bp Hp hp m.page
 have hV := Victim_spec p hi.ok hi.hand bp Hp hp
 have hvi := Pt.victim_inv hi
 have hdone := done_spec (p.doPage m.page Fr.pin).2
 obtain ⟨a, ct, ag, cg, Ht, Hg, rfl, hro, hct, hown⟩ := hm
 obtain ⟨qo, qp, qf, ql, qd⟩ := q
 simp only at hq
 subst hq
 have hmf : mFetch m p = mFetch m p := rfl
 conv at hmf => rhs; unfold mFetch
 generalize mFetch m p = out at *
 refine Ctr.enter (n := 92) [.cell 4 350] [(0, _), (1, _)] Tryz.func289 rfl rfl rfl (lb rfl) Tryz.call289 ⟨rfl, rfl, trivial⟩ ?_
 intro cx fin fin0
 refine aG ?_
 refine W.split3 rfl ?_
 refine aG ?_
 repeat (first | refine gw ?_ | refine gN fun _ => ?_ | refine gB fun _ => ?_ | fail)
 rename_i b4
 refine W.draw follows (by decide +kernel) (zG ?_)
 repeat (first | refine zL ?_ | fail)
 refine zC (o := hF) (h := ?_)
 refine WZ.nil (aG ?_)
 cases hg : mget p.tbl m.page with
 | some i =>
  rw [hg, if_pos (show (some i).isSome = true from rfl)] at hmf
  repeat refine gx ?_
  refine W.drawH tab_ok 8 [.b false, .b false, .b false, .b false, .b false, .b false, .b true, .b false] [5] follows (by decide +kernel) (by decide +kernel) rfl (by decide) rfl ?_
  intro _
  refine dG ?_
  repeat (first | refine dL ?_ | refine dS ?_ | (refine dN ?_; intro _; refine dG ?_) | (refine dB ?_; intro _; refine dG ?_) | fail)
  refine dC (o := hP) (h := ?_)
  rintro _ _ ⟨rfl, Hp2, rfl, hp2⟩
  refine dG ?_
  refine WD.nil (W.dropNil (aG ?_))
  by_cases he : (p.doPage m.page Fr.pin).2 = 0
  ·
   rw [if_pos he] at hmf
   subst hmf
   repeat refine gh he ?_
   refine aBu (ps := [_]) ?_
   refine aBu (ps := [_]) ?_
   refine aBu (ps := [_, _, _]) ?_
   repeat refine gw ?_
   refine W.groupV [3, 3, 3] rfl ?_
   refine W.ret (fin _ _ (FinOk.first 2 (aRc .nil) rfl ?_))
   exact ⟨_, _, rfl, rfl, ⟨_, _, _, _, _, _, rfl, hro, hct, hown⟩, hp2⟩
  ·
   rw [if_neg he] at hmf
   subst hmf
   repeat refine gh he ?_
   refine aC (o := hdone) (h := ?_)
   rintro _ _ ⟨rfl, rfl⟩
   refine aG ?_
   repeat refine gw ?_
   refine W.groupV [3, 3, 3] rfl ?_
   refine W.ret (fin _ _ (FinOk.first 2 (aRc .nil) rfl ?_))
   exact ⟨_, _, rfl, rfl, ⟨_, _, _, _, _, _, rfl, hro, hct, hown⟩, hp2⟩
 | none =>
  rw [hg, if_neg (by simp)] at hmf
  unfold mMiss at hmf
  repeat refine gx ?_
  refine aBu (ps := [_]) ?_
  refine aBu (ps := [_]) ?_
  repeat (first | refine gw ?_ | refine gN fun _ => ?_ | refine gB fun _ => ?_ | fail)
  cases hv : p.victim.2 with
  | none =>
   rw [hv] at hmf hV
   simp only at hmf hV
   subst hmf
   refine aC (o := hV) (h := ?_)
   rintro _ _ ⟨rfl, Hp2, rfl, hp2⟩
   refine aG ?_
   repeat refine gx ?_
   refine W.groupV [4, 4, 4] rfl ?_
   refine W.order [0, 0, 1] rfl ?_
   refine W.ret (fin _ _ (FinOk.first 2 (aRc .nil) rfl ?_))
   exact ⟨_, _, rfl, rfl, ⟨_, _, _, _, _, _, rfl, hro, hct, hown⟩, hp2⟩
  | some j =>
   rw [hv] at hmf hV
   simp only at hmf hV
   refine aC (o := hV) (h := ?_)
   rintro _ _ ⟨rfl, Hp2, rfl, hp2⟩
   refine aG ?_
   have hA := PAt_spec p.victim.1 hvi.ok bp Hp2 hp2 (j : Int)
   have hfo := at_ok hvi (j : Int)
   have hR := Release_spec p.victim.1 hvi.ok bp Hp2 hp2 (j : Int)
   have hPl := PFetch_spec m.page (p.victim.1.at_ (j : Int)).page (p.victim.1.at_ (j : Int)).dirty
   have hpl4 := plan_len m.page (p.victim.1.at_ (j : Int)).page (p.victim.1.at_ (j : Int)).dirty
   generalize p.victim.1.at_ (j : Int) = f at *
   repeat refine gx ?_
   refine aC (o := hA) (h := ?_)
   rintro _ _ ⟨rfl, rfl⟩
   refine aG ?_
   refine aN ?_
   intro c1
   refine aG ?_
   refine W.store tab_ok rfl Upd.here rfl rfl rfl (Fr.l_len hfo) f.l_one (splice_all (by rw [Fr.l_len hfo]; rfl)) (aG ?_)
   obtain ⟨fu, fd, fr, fn, fp, fb⟩ := f
   simp only at hmf hPl hpl4
   cases fu
   case' true => cases fd
   case' true.false =>
    repeat refine gx ?_
    refine aC (o := hR) (h := ?_)
    rintro _ _ ⟨rfl, Hp3, rfl, hp3⟩
    refine aG ?_
   all_goals
    subst hmf
    repeat refine gx ?_
    refine aC (o := hPl) (h := ?_)
    rintro _ _ ⟨an, cn, Hn, rfl, rfl, hn⟩
    refine aG ?_
    repeat refine gx ?_
    refine W.groupV [6, 0, 6] rfl ?_
   case' true.false =>
    refine W.order [0, 0, 2] rfl ?_
   case' true.true =>
    refine W.order [0, 1, 2] rfl ?_
   case' some.false =>
    refine W.order [0, 1, 2] rfl ?_
   all_goals
    refine W.ret (fin _ _ (FinOk.first 2 (aRc .nil) rfl ?_))
    refine ⟨_, _, rfl, rfl, ⟨_, _, _, _, _, _, rfl, Own.roSl hn, hn.cap_le, hown⟩, ?_⟩
    assumption
def selD (p : Pt) (page : Int) (ds : List Int) : List Int := (ds.filter fun i => decide (page < 0) || decide ((p.at_ i).page = page)).map fun i => (p.at_ i).page
theorem selD_next (p : Pt) (page : Int) (ds : List Int) (j : Nat) (hj : j < ds.length) : selD p page (ds.take (j + 1)) = selD p page (ds.take j) ++ (if (decide (page < 0) || decide ((p.at_ ds[j]).page = page)) = true then [(p.at_ ds[j]).page] else []) := by
 rw [List.take_add_one, List.getElem?_eq_getElem hj]
 simp only [selD, Option.toList_some, List.filter_append, List.map_append, List.filter_cons, List.filter_nil]
 split <;> rfl
theorem selD_len (p : Pt) (page : Int) (ds : List Int) : (selD p page ds).length ≤ ds.length := by
 simp only [selD, List.length_map]
 exact List.length_filter_le _ _
theorem dirty_len (p : Pt) : p.dirty.length ≤ p.fs.length := dirtyFrom_len p.fs 0
theorem MDirty_spec (m : Mc) (b bp : Nat) (H : HL) (hm : MAt m b bp H) (p : Pt) (hi : p.Inv) (Hp : HL) (hp : PtAt p bp Hp) (page : Int) :
  Ctr Tryz.prog 331 [.pointer (some ⟨b, 0, none⟩), .int .i64 page] [] (H ++ Hp) (fun v L' => ∃ a c Hl, v = .slice a (selD p page p.dirty).length c ∧ L' = [Hl] ∧ Own 1 3 (ints (selD p page p.dirty)) a (selD p page p.dirty).length c Hl) := by
 obtain ⟨t, g, ⟨at_, ct, rfl⟩, ⟨ag, cg, rfl⟩, hb⟩ := hm.head
 have hat : ∀ L, At (H ++ Hp) L b _ := fun L => .inr (List.mem_append_left _ hb)
 have hA := fun i => PAt_spec p hi.ok bp Hp hp i
 have hD := PDirty_spec p hi.ok bp Hp hp
 have rP : ∀ {L}, RoIn (H ++ Hp) L Hp := RoIn.all fun q hq => List.mem_append_right _ hq
 have h64 := hi.ok.2.2
 have hdl := dirty_len p
 refine Ctr.enter (n := 40) [.tmp 4] [(0, _), (1, _)] Tryz.func331 rfl rfl rfl (lb rfl) Tryz.call331 ⟨rfl, rfl, trivial⟩ ?_
 intro cx fin fin0
 refine aG ?_
 refine aV (OpVal.load tab_ok rfl (hat _) rfl) ?_
 refine aC (o := hD) (h := ?_) (hro := rP)
 rintro _ _ ⟨ad, cd, Hs, rfl, rfl, hds⟩
 refine aG ?_
 generalize p.dirty = ds at *
 refine W.nilChunk ?_
 refine aLp (fun k ρ1 L1 => ∃ (j n : Nat) (a : Option Addr) (c : Nat) (Hl : HL), j ≤ ds.length ∧ n = (selD p page (ds.take j)).length ∧ Own 1 3 (ints (selD p page (ds.take j))) a n c Hl ∧ k = ds.length - j ∧ ρ1 = [(15, .int .i64 (j : Int)), (14, .int .i64 (ds.length : Int)), (13, .slice ad ds.length cd), (5, .slice a n c), (1, .int .i64 page), (0, .pointer (some ⟨b, 0, none⟩))] ∧ L1 = [Hl, Hs]) (o := ⟨0, 0, none, 0, [], by omega, rfl, Own.nil 1 _, rfl, rfl, rfl⟩) (h := ?_)
 rintro k ρ1 L1 ⟨j, n, a, c, Hl, hj, hn, hown, rfl, rfl, rfl⟩
 refine aG ?_
 by_cases hlt : j < ds.length
 ·
  refine aT ?_
  have hnx := selD_next p page ds j hlt
  have hsl := selD_len p page (ds.take j)
  rw [← hn, List.length_take] at hsl
  obtain ⟨bx, ox, lx, ex, frx, rfl, rfl, -, hld⟩ := RoSl.at (f := fun x => [.int .i64 x]) (fun _ => rfl) (Own.roSl hds) hlt
  have l0 : lx[ox + j * 1]? = some (.int .i64 ds[j]) := hld 0 (by decide)
  have hAj := hA ds[j]
  have hfo := at_ok hi ds[j]
  generalize p.at_ ds[j] = f at *
  generalize ds[j] = d at *
  refine aV (OpVal.ixSl tab_ok rfl rfl rfl rfl rfl hlt) ?_
  refine aV (OpVal.load tab_ok rfl (at_own 1 rfl) l0) ?_
  refine aV (OpVal.load tab_ok rfl (hat _) rfl) ?_
  refine aC (o := hAj) (h := ?_) (hro := rP)
  rintro _ _ ⟨rfl, rfl⟩
  refine aG ?_
  refine aN ?_
  intro c1
  refine aG ?_
  refine W.store tab_ok rfl Upd.here rfl rfl rfl (Fr.l_len hfo) f.l_one (splice_all (by rw [Fr.l_len hfo]; rfl)) (aG ?_)
  obtain ⟨fu, fd, fr, fn, fp, fb⟩ := f
  simp only at hnx
  have hsel : ((decide (page < 0) || decide (fp = page)) = true ∧ selD p page (ds.take (j + 1)) = selD p page (ds.take j) ++ [fp]) ∨ ((decide (page < 0) || decide (fp = page)) = false ∧ selD p page (ds.take (j + 1)) = selD p page (ds.take j)) := by
   cases hq : (decide (page < 0) || decide (fp = page)) with
   | true => rw [hq] at hnx; exact .inl ⟨rfl, hnx⟩
   | false => rw [hq] at hnx; exact .inr ⟨rfl, by simpa using hnx⟩
  rcases hsel with ⟨hq, hnx⟩ | ⟨hq, hnx⟩
  ·
   by_cases h0 : page < 0
   case' pos =>
    repeat refine gh h0 ?_
   case' neg =>
    have h1 : fp = page := by simpa [h0] using hq
    repeat refine gh (gc2 h0 h1) ?_
   all_goals
    refine aSl (ps := [_]) ?_
    intro bt
    refine aG ?_
    refine aAp (hown) ?_
    rintro _ _ ⟨_, _, _, rfl, rfl, ho⟩
    refine aG ?_
    refine aV (OpVal.add rfl rfl (i64_in _ (by omega))) ?_
    have ho' : Own 1 3 (ints (selD p page (ds.take j)) ++ ints [fp]) _ _ _ _ := ho
    have e : ints (selD p page (ds.take j)) ++ ints [fp] = ints (selD p page (ds.take (j + 1))) := by rw [hnx]; simp [ints]
    rw [e] at ho'
    refine aR (o := ⟨ds.length - (j + 1), by omega, j + 1, n + 1, _, _, _, by omega, by rw [hnx, List.length_append, ← hn]; rfl, ho', rfl, rfl, rfl⟩)
  ·
   have h0 : ¬ page < 0 := by simp at hq; omega
   have h1 : ¬ fp = page := by simp at hq; exact hq.2
   repeat refine gh (gc2 h0 h1) ?_
   rw [← hnx] at hn hown
   refine aR (o := ⟨ds.length - (j + 1), by omega, j + 1, n, _, _, _, by omega, hn, hown, rfl, rfl, rfl⟩)
 ·
  obtain rfl : j = ds.length := by omega
  refine aF ?_
  rw [List.take_length] at hn hown
  subst hn
  refine W.ret (fin _ _ (FinOk.first 1 (.tmp rfl .nil) rfl ?_))
  exact ⟨_, _, _, rfl, rfl, hown⟩
theorem MFlush_spec (m : Mc) (b bp : Nat) (H : HL) (hm : MAt m b bp H) (p : Pt) (hi : p.Inv) (Hp : HL) (hp : PtAt p bp Hp) (page : Int) :
  Ctr Tryz.prog 298 [.pointer (some ⟨b, 0, none⟩), .int .i64 page] [H] Hp (fun v L' => ∃ H', v = (⟨false, 0, false, [], C6.none⟩ : Re).v none 0 0 ∧ L' = [H'] ∧ MAt { m with todo := planFlush (selD p page p.dirty) } b bp H') := by
 have hD := MDirty_spec m b bp H hm p hi Hp hp page
 have hl := selD_len p page p.dirty
 have hdl := dirty_len p
 have h64 := hi.ok.2.2
 generalize selD p page p.dirty = ds at *
 obtain ⟨a, ct, ag, cg, Ht, Hg, hH, hro, hct, hown⟩ := hm
 refine Ctr.enter (n := 13) [.cell 4 350] [(0, _), (1, _)] Tryz.func298 rfl rfl rfl (lb rfl) Tryz.call298 ⟨rfl, rfl, trivial⟩ ?_
 intro cx fin fin0
 refine aG ?_
 repeat (first | refine gw ?_ | refine gN fun _ => ?_ | refine gB fun _ => ?_ | fail)
 refine aC (o := hD) (h := ?_) (hro := RoIn.append (RoIn.own 1 rfl) RoIn.same)
 rintro _ _ ⟨ad, cd, Hd, rfl, rfl, hd⟩
 refine aG ?_
 have hPF := PFlush_spec ds (by omega) ad cd Hd (Own.roSl hd)
 refine aC (o := hPF) (h := ?_)
 rintro _ _ ⟨an, cn, Hn, rfl, rfl, hn⟩
 refine aG ?_
 subst hH
 refine W.order [3, 0, 1] rfl ?_
 refine aG ?_
 refine W.split3 rfl ?_
 refine aG ?_
 repeat refine gx ?_
 refine aBu (ps := []) ?_
 repeat refine gw ?_
 refine W.groupV [0, 2, 1] rfl ?_
 refine W.ret (fin _ _ (FinOk.first 1 (aRc .nil) rfl ?_))
 exact ⟨_, rfl, rfl, ⟨_, _, _, _, _, _, rfl, Own.roSl hn, hn.cap_le, hown⟩⟩
def mDiscard (p : Pt) (page : Int) : Pt × Int := match mget p.tbl page with | none => (p, 0) | some i => p.release i
theorem Discard_spec (m : Mc) (b bp : Nat) (H : HL) (hm : MAt m b bp H) (p : Pt) (hi : p.Inv) (Hp : HL) (hp : PtAt p bp Hp) (q : Rq) (aq : Option Addr) (cq : Nat) :
  Ctr Tryz.prog 300 [.pointer (some ⟨b, 0, none⟩), q.v aq cq] [Hp] H (fun v L' => ∃ Hp', v = (Re.dn (mDiscard p q.page).2).v none 0 0 ∧ L' = [Hp'] ∧ PtAt (mDiscard p q.page).1 bp Hp') := by
 obtain ⟨t, g, ⟨at_, ct, rfl⟩, ⟨ag, cg, rfl⟩, hb⟩ := hm.head
 have hat : ∀ L, At H L b _ := fun L => .inr hb
 have hF := Find_spec p bp Hp hp q.page
 have hdone := fun e => done_spec e
 obtain ⟨qo, qp, qf, ql, qd⟩ := q
 simp only at *
 refine Ctr.enter (n := 27) [.cell 4 350] [(0, _), (1, _)] Tryz.func300 rfl rfl rfl (lb rfl) Tryz.call300 ⟨rfl, rfl, trivial⟩ ?_
 intro cx fin fin0
 refine aG ?_
 repeat (first | refine gw ?_ | refine gN fun _ => ?_ | refine gB fun _ => ?_ | fail)
 refine W.draw follows (by decide +kernel) (zG ?_)
 refine zV (OpVal.load tab_ok rfl (hat _) rfl) ?_
 repeat (first | refine zL ?_ | fail)
 refine zC (o := hF) (h := ?_)
 refine WZ.nil (aG ?_)
 cases hg : mget p.tbl qp with
 | none =>
  have hmd : mDiscard p qp = (p, 0) := by unfold mDiscard; rw [hg]
  repeat refine gx ?_
  refine aC (o := hdone 0) (h := ?_)
  rintro _ _ ⟨rfl, rfl⟩
  refine aG ?_
  repeat refine gw ?_
  refine W.order [2, 0] rfl ?_
  refine W.ret (fin _ _ (FinOk.first 1 (aRc .nil) rfl ?_))
  rw [hmd]
  exact ⟨_, rfl, rfl, hp⟩
 | some i =>
  have hR := Release_spec p hi.ok bp Hp hp i
  have hmd : mDiscard p qp = p.release i := by unfold mDiscard; rw [hg]
  repeat refine gx ?_
  refine aV (OpVal.load tab_ok rfl (hat _) rfl) ?_
  refine aC (o := hR) (h := ?_)
  rintro _ _ ⟨rfl, Hp2, rfl, hp2⟩
  refine aG ?_
  refine aC (o := hdone _) (h := ?_)
  rintro _ _ ⟨rfl, rfl⟩
  refine aG ?_
  repeat refine gw ?_
  refine W.order [0, 0] rfl ?_
  refine W.ret (fin _ _ (FinOk.first 1 (aRc .nil) rfl ?_))
  rw [hmd]
  exact ⟨_, rfl, rfl, hp2⟩
def mStored (m : Mc) (p : Pt) (page : Int) : Pt × C6 :=
 if m.op = 1 then (((p.clean ((mget p.tbl page).getD 0)).1.release ((mget p.tbl page).getD 0)).1, ⟨0, 0, 1, 0, 0, 0⟩) else ((p.clean ((mget p.tbl page).getD 0)).1, C6.none)
theorem Stored_spec (m : Mc) (b bp : Nat) (H : HL) (hm : MAt m b bp H) (p : Pt) (hi : p.Inv) (Hp : HL) (hp : PtAt p bp Hp) (page : Int) :
  Ctr Tryz.prog 266 [.pointer (some ⟨b, 0, none⟩), .int .i64 page] [Hp] H (fun v L' => ∃ Hp', v = (mStored m p page).2.v ∧ L' = [Hp'] ∧ PtAt (mStored m p page).1 bp Hp') := by
 obtain ⟨t, g, ⟨at_, ct, rfl⟩, ⟨ag, cg, rfl⟩, hb⟩ := hm.head
 have hat : ∀ L, At H L b _ := fun L => .inr hb
 have hF := Find_spec p bp Hp hp page
 have hC := Clean_spec p hi.ok bp Hp hp ((mget p.tbl page).getD 0)
 have hci := Pt.clean_inv hi ((mget p.tbl page).getD 0)
 have hms : mStored m p page = mStored m p page := rfl
 conv at hms => rhs; unfold mStored
 generalize mStored m p page = out at *
 refine Ctr.enter (n := 35) [.cell 4 57] [(0, _), (1, _)] Tryz.func266 rfl rfl rfl (lb rfl) Tryz.call266 ⟨rfl, rfl, trivial⟩ ?_
 intro cx fin fin0
 refine aG ?_
 repeat (first | refine gw ?_ | refine gN fun _ => ?_ | refine gB fun _ => ?_ | fail)
 refine aV (OpVal.load tab_ok rfl (hat _) rfl) ?_
 refine aC (o := hF) (h := ?_)
 rintro _ _ ⟨rfl, rfl⟩
 refine aG ?_
 refine aV (OpVal.load tab_ok rfl (hat _) rfl) ?_
 refine aC (o := hC) (h := ?_)
 rintro _ _ ⟨rfl, Hp2, rfl, hp2⟩
 refine aG ?_
 refine aV (OpVal.load tab_ok rfl (hat _) rfl) ?_
 by_cases h1 : m.op = 1
 ·
  rw [if_pos h1] at hms
  subst hms
  have hR := Release_spec _ hci.ok bp Hp2 hp2 ((mget p.tbl page).getD 0)
  repeat refine gh h1 ?_
  refine aV (OpVal.load tab_ok rfl (hat _) rfl) ?_
  refine aC (o := hR) (h := ?_)
  rintro _ _ ⟨rfl, Hp3, rfl, hp3⟩
  refine aG ?_
  refine aBu (ps := [_]) ?_
  repeat refine gw ?_
  refine W.order [0, 0] rfl ?_
  refine W.ret (fin _ _ (FinOk.first 1 (aRc .nil) rfl ?_))
  exact ⟨_, rfl, rfl, hp3⟩
 ·
  rw [if_neg h1] at hms
  subst hms
  repeat refine gh h1 ?_
  refine aBu (ps := []) ?_
  repeat refine gw ?_
  refine W.order [0, 0] rfl ?_
  refine W.ret (fin _ _ (FinOk.first 1 (aRc .nil) rfl ?_))
  exact ⟨_, rfl, rfl, hp2⟩
end Go.Proofs.YtfpghdcjdnifcaaGreat
namespace Go.Proofs.YtfpghdcjdnifcaaGreat
open Go Go.Sl Go.IntWalk
set_option maxHeartbeats 8000000
set_option maxRecDepth 20000
def mRead (p : Pt) (q : Rq) : Pt × Re := ((p.get q.page q.off q.len).1, if (p.get q.page q.off q.len).2.2 = 0 then ⟨true, 0, false, (p.get q.page q.off q.len).2.1, ⟨0, 0, 0, 1, 0, 0⟩⟩ else Re.dn (p.get q.page q.off q.len).2.2)
def mWrite (p : Pt) (q : Rq) : Pt × Re := ((p.doPage q.page fun f => f.put q.off q.data).1, if (p.doPage q.page fun f => f.put q.off q.data).2 = 0 then ⟨true, 0, false, [], ⟨0, 0, 0, 0, 1, 0⟩⟩ else Re.dn (p.doPage q.page fun f => f.put q.off q.data).2)
theorem get_err {p : Pt} {page off n : Int} (h : (p.get page off n).2.2 ≠ 0) : (p.get page off n).2.1 = [] := by
 unfold Pt.get at *
 cases hg : mget p.tbl page with
 | none => rfl
 | some i =>
  rw [hg] at h
  simp only at h ⊢
  unfold Fr.get at *
  split
  · rfl
  ·
   rename_i h1
   rw [if_neg h1] at h
   split
   · rfl
   ·
    rename_i h2
    rw [if_neg h2] at h
    exact absurd rfl h
theorem Read_spec (m : Mc) (b bp : Nat) (H : HL) (hm : MAt m b bp H) (p : Pt) (hi : p.Inv) (Hp : HL) (hp : PtAt p bp Hp) (q : Rq) (ho : i64s q.off) (aq : Option Addr) (cq : Nat) (b1 : Nat) :
  Ctr Tryz.prog 290 [q.v aq cq, .pointer (some ⟨b1, 0, none⟩)] [Hp] ((b1, .cells #[.pointer (some ⟨b, 0, none⟩)] 249 (0, 0)) :: H) (fun v L' => ∃ a n c Hp' Hd, v = (mRead p q).2.v a n c ∧ L' = [Hp', Hd] ∧ PtAt (mRead p q).1 bp Hp' ∧ RoSl 1 (u8s (mRead p q).2.data) a n Hd ∧ (mRead p q).2.data.length = n) := by
 obtain ⟨t, g, ⟨at_, ct, rfl⟩, ⟨ag, cg, rfl⟩, hb⟩ := hm.head
 have hat : ∀ (y : Nat × Obj) L, At (y :: H) L b _ := fun y L => .inr (List.mem_cons_of_mem _ hb)
 have hG := PGet_spec p hi bp Hp hp q.page q.off q.len ho
 have hC := fun bs a n c => counted_spec (p.get q.page q.off q.len).2.2 bs a n c ⟨0, 0, 0, 1, 0, 0⟩
 have hge := fun h => get_err (p := p) (page := q.page) (off := q.off) (n := q.len) h
 have hmr : mRead p q = mRead p q := rfl
 conv at hmr => rhs; unfold mRead
 generalize mRead p q = out at *
 obtain ⟨qo, qp, qf, ql, qd⟩ := q
 simp only at *
 refine Ctr.enter (n := 24) [.cell 3 350] [(0, _), (1, _)] Tryz.func290 rfl rfl rfl (lb rfl) Tryz.call290 ⟨rfl, rfl, trivial⟩ ?_
 intro cx fin fin0
 refine aG ?_
 repeat (first | refine gw ?_ | refine gN fun _ => ?_ | refine gB fun _ => ?_ | fail)
 refine W.drawH tab_ok 16 [.b false, .b false, .b false, .b false, .b false, .b false, .b false, .b false, .b false, .b false, .b true, .b false, .b false, .b false, .b false, .b false] [2] follows (by decide +kernel) (by decide +kernel) rfl (by decide) rfl ?_
 intro _
 refine dG ?_
 repeat (first | refine dL ?_ | refine dS ?_ | (refine dN ?_; intro _; refine dG ?_) | (refine dB ?_; intro _; refine dG ?_) | fail)
 refine dV (OpVal.load tab_ok rfl (.inr (List.mem_append_right _ (List.mem_cons_of_mem _ hb))) rfl) ?_
 repeat (first | refine dL ?_ | refine dS ?_ | (refine dN ?_; intro _; refine dG ?_) | (refine dB ?_; intro _; refine dG ?_) | fail)
 refine dC (o := hG) (h := ?_)
 rintro _ _ ⟨a, n, c, Hp2, Hs, rfl, rfl, hp2, hrs, hrn⟩
 refine dG ?_
 refine WD.nil (W.dropNil (aG ?_))
 refine aBu (ps := [_]) ?_
 by_cases he : (p.get qp qf ql).2.2 = 0
 ·
  rw [if_pos he] at hmr
  subst hmr
  have hC1 := hC (p.get qp qf ql).2.1 a n c
  rw [if_pos he] at hC1
  refine aC (o := hC1) (h := ?_)
  rintro _ _ ⟨rfl, rfl⟩
  refine aG ?_
  repeat refine gw ?_
  refine W.ret (fin _ _ (FinOk.first 2 (aRc .nil) rfl ?_))
  exact ⟨_, _, _, _, _, rfl, rfl, hp2, hrs, hrn⟩
 ·
  rw [if_neg he] at hmr
  subst hmr
  have hC1 := hC (p.get qp qf ql).2.1 a n c
  rw [if_neg he] at hC1
  refine aC (o := hC1) (h := ?_)
  rintro _ _ ⟨rfl, rfl⟩
  refine aG ?_
  repeat refine gw ?_
  rw [hge he] at hrs hrn
  refine W.order [0, 1] rfl ?_
  refine W.nilChunk ?_
  refine W.order [1, 0, 0] rfl ?_
  refine W.ret (fin _ _ (FinOk.first 2 (aRc .nil) rfl ?_))
  exact ⟨_, _, _, _, _, rfl, rfl, hp2, ⟨rfl, .inl ⟨rfl, rfl⟩⟩, rfl⟩
theorem Write_spec (m : Mc) (b bp : Nat) (H : HL) (hm : MAt m b bp H) (p : Pt) (hi : p.Inv) (Hp : HL) (hp : PtAt p bp Hp) (q : Rq) (ho : i64s q.off) (aq : Option Addr) (cq : Nat) (rq : HL) (hrq : RoSl 1 (u8s q.data) aq q.data.length rq) (b1 : Nat) :
  Ctr Tryz.prog 293 [q.v aq cq, .pointer (some ⟨b1, 0, none⟩)] [Hp] ((b1, .cells #[.pointer (some ⟨b, 0, none⟩)] 249 (0, 0)) :: (H ++ rq)) (fun v L' => ∃ Hp', v = (mWrite p q).2.v none 0 0 ∧ L' = [Hp'] ∧ PtAt (mWrite p q).1 bp Hp') := by
 obtain ⟨t, g, ⟨at_, ct, rfl⟩, ⟨ag, cg, rfl⟩, hb⟩ := hm.head
 have hG := PPut_spec p hi bp Hp hp q.page q.off ho q.data aq cq rq hrq
 have hC := counted_spec (p.doPage q.page fun f => f.put q.off q.data).2 [] none 0 0 ⟨0, 0, 0, 0, 1, 0⟩
 have hmr : mWrite p q = mWrite p q := rfl
 conv at hmr => rhs; unfold mWrite
 generalize mWrite p q = out at *
 obtain ⟨qo, qp, qf, ql, qd⟩ := q
 simp only at *
 by_cases he : (p.doPage qp fun f => f.put qf qd).2 = 0
 case' pos => rw [if_pos he] at hmr hC
 case' neg => rw [if_neg he] at hmr hC
 all_goals
  subst hmr
  refine Ctr.enter (n := 17) [.cell 3 350] [(0, _), (1, _)] Tryz.func293 rfl rfl rfl (lb rfl) Tryz.call293 ⟨rfl, rfl, trivial⟩ ?_
  intro cx fin fin0
  refine aG ?_
  repeat (first | refine gw ?_ | refine gN fun _ => ?_ | refine gB fun _ => ?_ | fail)
  refine W.drawH tab_ok 14 [.b false, .b false, .b false, .b false, .b false, .b false, .b false, .b false, .b false, .b false, .b true, .b false, .b true, .b true] [0,2] follows (by decide +kernel) (by decide +kernel) rfl (by decide) rfl ?_
  intro _
  refine dG ?_
  repeat (first | refine dL ?_ | refine dS ?_ | (refine dN ?_; intro _; refine dG ?_) | (refine dB ?_; intro _; refine dG ?_) | fail)
  refine dV (OpVal.load tab_ok rfl (.inr (List.mem_append_right _ (List.mem_cons_of_mem _ (List.mem_append_left _ hb)))) rfl) ?_
  repeat (first | refine dL ?_ | refine dS ?_ | (refine dN ?_; intro _; refine dG ?_) | (refine dB ?_; intro _; refine dG ?_) | fail)
  refine dC (o := hG) (h := ?_) (hro := RoIn.all (fun q hq => List.mem_append_right _ (List.mem_cons_of_mem _ (List.mem_append_right _ hq))))
  rintro _ _ ⟨rfl, Hp2, rfl, hp2⟩
  refine dG ?_
  refine dV (OpVal.build (ps := [_]) tab_ok rfl rfl rfl rfl (by repeat (first | exact trivial | refine ⟨⟨_, _, _, rfl, rfl, rfl⟩, ?_⟩)) rfl) ?_
  refine dC (o := hC) (h := ?_)
  rintro _ _ ⟨rfl, rfl⟩
  refine dG ?_
  repeat (first | refine dL ?_ | refine dS ?_ | (refine dN ?_; intro _; refine dG ?_) | (refine dB ?_; intro _; refine dG ?_) | fail)
  refine WD.nil (W.dropNil (aG ?_))
  repeat refine gw ?_
  refine W.ret (fin _ _ (FinOk.first 1 (aRc .nil) rfl ?_))
  exact ⟨_, rfl, rfl, hp2⟩
theorem UnpinC_spec (m : Mc) (b bp : Nat) (H : HL) (hm : MAt m b bp H) (p : Pt) (hi : p.Inv) (Hp : HL) (hp : PtAt p bp Hp) (q : Rq) (aq : Option Addr) (cq : Nat) (b1 : Nat) :
  Ctr Tryz.prog 295 [q.v aq cq, .pointer (some ⟨b1, 0, none⟩)] [Hp] ((b1, .cells #[.pointer (some ⟨b, 0, none⟩)] 249 (0, 0)) :: H) (fun v L' => ∃ Hp', v = (Re.dn (p.doPage q.page Fr.unpin).2).v none 0 0 ∧ L' = [Hp'] ∧ PtAt (p.doPage q.page Fr.unpin).1 bp Hp') := by
 obtain ⟨t, g, ⟨at_, ct, rfl⟩, ⟨ag, cg, rfl⟩, hb⟩ := hm.head
 have hG := PUnpin_spec p hi bp Hp hp q.page
 have hC := done_spec (p.doPage q.page Fr.unpin).2
 obtain ⟨qo, qp, qf, ql, qd⟩ := q
 simp only at *
 refine Ctr.enter (n := 12) [.cell 3 350] [(0, _), (1, _)] Tryz.func295 rfl rfl rfl (lb rfl) Tryz.call295 ⟨rfl, rfl, trivial⟩ ?_
 intro cx fin fin0
 refine aG ?_
 repeat (first | refine gw ?_ | refine gN fun _ => ?_ | refine gB fun _ => ?_ | fail)
 refine W.drawH tab_ok 9 [.b false, .b false, .b false, .b false, .b false, .b false, .b true, .b true, .b true] [0,2] follows (by decide +kernel) (by decide +kernel) rfl (by decide) rfl ?_
 intro _
 refine dG ?_
 repeat (first | refine dL ?_ | refine dS ?_ | (refine dN ?_; intro _; refine dG ?_) | (refine dB ?_; intro _; refine dG ?_) | fail)
 refine dV (OpVal.load tab_ok rfl (.inr (List.mem_append_right _ (List.mem_cons_of_mem _ hb))) rfl) ?_
 repeat (first | refine dL ?_ | refine dS ?_ | (refine dN ?_; intro _; refine dG ?_) | (refine dB ?_; intro _; refine dG ?_) | fail)
 refine dC (o := hG) (h := ?_)
 rintro _ _ ⟨rfl, Hp2, rfl, hp2⟩
 refine dG ?_
 refine dC (o := hC) (h := ?_)
 rintro _ _ ⟨rfl, rfl⟩
 refine dG ?_
 repeat (first | refine dL ?_ | refine dS ?_ | (refine dN ?_; intro _; refine dG ?_) | (refine dB ?_; intro _; refine dG ?_) | fail)
 refine WD.nil (W.dropNil (aG ?_))
 repeat refine gw ?_
 refine W.ret (fin _ _ (FinOk.first 1 (aRc .nil) rfl ?_))
 exact ⟨_, rfl, rfl, hp2⟩
theorem FlushC_spec (m : Mc) (b bp : Nat) (H : HL) (hm : MAt m b bp H) (p : Pt) (hi : p.Inv) (Hp : HL) (hp : PtAt p bp Hp) (q : Rq) (aq : Option Addr) (cq : Nat) (b1 : Nat) :
  Ctr Tryz.prog 297 [q.v aq cq, .pointer (some ⟨b1, 0, none⟩)] [H] ((b1, .cells #[.pointer (some ⟨b, 0, none⟩)] 249 (0, 0)) :: Hp) (fun v L' => ∃ H', v = (⟨false, 0, false, [], C6.none⟩ : Re).v none 0 0 ∧ L' = [H'] ∧ MAt { m with todo := planFlush (selD p q.page p.dirty) } b bp H') := by
 have hF := MFlush_spec m b bp H hm p hi Hp hp q.page
 obtain ⟨qo, qp, qf, ql, qd⟩ := q
 simp only at *
 refine Ctr.enter (n := 8) [.cell 3 350] [(0, _), (1, _)] Tryz.func297 rfl rfl rfl (lb rfl) Tryz.call297 ⟨rfl, rfl, trivial⟩ ?_
 intro cx fin fin0
 refine aG ?_
 repeat (first | refine gw ?_ | refine gN fun _ => ?_ | refine gB fun _ => ?_ | fail)
 refine aC (o := hF) (h := ?_) (hro := RoIn.all (fun q hq => List.mem_cons_of_mem _ hq))
 rintro _ _ ⟨H2, rfl, rfl, hm2⟩
 refine aG ?_
 repeat refine gw ?_
 refine W.ret (fin _ _ (FinOk.first 1 (aRc .nil) rfl ?_))
 exact ⟨_, rfl, rfl, hm2⟩
theorem FlushAllC_spec (m : Mc) (b bp : Nat) (H : HL) (hm : MAt m b bp H) (p : Pt) (hi : p.Inv) (Hp : HL) (hp : PtAt p bp Hp) (q : Rq) (aq : Option Addr) (cq : Nat) (b1 : Nat) :
  Ctr Tryz.prog 299 [q.v aq cq, .pointer (some ⟨b1, 0, none⟩)] [H] ((b1, .cells #[.pointer (some ⟨b, 0, none⟩)] 249 (0, 0)) :: Hp) (fun v L' => ∃ H', v = (⟨false, 0, false, [], C6.none⟩ : Re).v none 0 0 ∧ L' = [H'] ∧ MAt { m with todo := planFlush (selD p (-1) p.dirty) } b bp H') := by
 have hF := MFlush_spec m b bp H hm p hi Hp hp (-1)
 obtain ⟨qo, qp, qf, ql, qd⟩ := q
 refine Ctr.enter (n := 6) [.cell 3 350] [(0, _), (1, _)] Tryz.func299 rfl rfl rfl (lb rfl) Tryz.call299 ⟨rfl, rfl, trivial⟩ ?_
 intro cx fin fin0
 refine aG ?_
 repeat (first | refine gw ?_ | refine gN fun _ => ?_ | refine gB fun _ => ?_ | fail)
 refine aC (o := hF) (h := ?_) (hro := RoIn.all (fun q hq => List.mem_cons_of_mem _ hq))
 rintro _ _ ⟨H2, rfl, rfl, hm2⟩
 refine aG ?_
 repeat refine gw ?_
 refine W.ret (fin _ _ (FinOk.first 1 (aRc .nil) rfl ?_))
 exact ⟨_, rfl, rfl, hm2⟩
theorem StatsC_spec (q : Rq) (aq : Option Addr) (cq : Nat) : Ctr Tryz.prog 301 [q.v aq cq] [] [] (fun v L' => v = (Re.dn 0).v none 0 0 ∧ L' = []) := by
 obtain ⟨qo, qp, qf, ql, qd⟩ := q
 refine Ctr.enter (n := 4) [.cell 2 350] [(0, _)] Tryz.func301 rfl rfl rfl (lb rfl) Tryz.call301 ⟨rfl, trivial⟩ ?_
 intro cx fin fin0
 refine aG ?_
 repeat (first | refine gw ?_ | refine gN fun _ => ?_ | refine gB fun _ => ?_ | fail)
 refine aC (o := done_spec 0) (h := ?_)
 rintro _ _ ⟨rfl, rfl⟩
 refine aG ?_
 repeat refine gw ?_
 refine W.ret (fin _ _ (FinOk.mk' ([]) (aRc .nil) (by repeat (first | exact Sel.nil | (apply Sel.cons; (repeat (first | exact Pick.here | apply Pick.there))))) rfl ?_))
 exact ⟨rfl, rfl⟩
def mOp (m : Mc) (p : Pt) (q : Rq) : Mc × Pt × Re :=
 if q.op = 1 then mFetch m p else if q.op = 2 then (m, mRead p q) else if q.op = 3 then (m, mWrite p q) else if q.op = 4 then (m, (p.doPage q.page Fr.unpin).1, Re.dn (p.doPage q.page Fr.unpin).2)
 else if q.op = 5 then ({ m with todo := planFlush (selD p q.page p.dirty) }, p, ⟨false, 0, false, [], C6.none⟩) else if q.op = 6 then ({ m with todo := planFlush (selD p (-1) p.dirty) }, p, ⟨false, 0, false, [], C6.none⟩)
 else if q.op = 7 then (m, (mDiscard p q.page).1, Re.dn (mDiscard p q.page).2) else (m, p, Re.dn 0)
def OpPost (r : Mc × Pt × Re) (b bp : Nat) (v : Value) (L' : List HL) : Prop := ∃ a n c H' Hp' Hd, v = r.2.2.v a n c ∧ L' = [H', Hp', Hd] ∧ MAt r.1 b bp H' ∧ PtAt r.2.1 bp Hp' ∧ RoSl 1 (u8s r.2.2.data) a n Hd ∧ r.2.2.data.length = n
def opV (b b1 : Nat) (k : Int) : Value :=
 if k = 1 then .func (.func 289) #[.pointer (some ⟨b, 0, none⟩)] #[] else if k = 2 then .func (.func 290) #[] #[.pointer (some ⟨b1, 0, none⟩)]
 else if k = 3 then .func (.func 293) #[] #[.pointer (some ⟨b1, 0, none⟩)] else if k = 4 then .func (.func 295) #[] #[.pointer (some ⟨b1, 0, none⟩)]
 else if k = 5 then .func (.func 297) #[] #[.pointer (some ⟨b1, 0, none⟩)] else if k = 6 then .func (.func 299) #[] #[.pointer (some ⟨b1, 0, none⟩)]
 else if k = 7 then .func (.func 300) #[.pointer (some ⟨b, 0, none⟩)] #[] else .func (.func 301) #[] #[]
def opsMap (b b1 : Nat) : List (Int × Value) := [(1, opV b b1 1), (2, opV b b1 2), (3, opV b b1 3), (4, opV b b1 4), (5, opV b b1 5), (6, opV b b1 6), (7, opV b b1 7), (8, opV b b1 8)]
theorem ops_get (b b1 : Nat) {k : Int} (h1 : 1 ≤ k) (h2 : k ≤ 8) : mget (opsMap b b1) k = some (opV b b1 k) := by
 obtain rfl | rfl | rfl | rfl | rfl | rfl | rfl | rfl : k = 1 ∨ k = 2 ∨ k = 3 ∨ k = 4 ∨ k = 5 ∨ k = 6 ∨ k = 7 ∨ k = 8 := by omega
 all_goals rfl
theorem empty_ro : RoSl 1 (u8s []) none 0 [] := ⟨rfl, .inl ⟨rfl, rfl⟩⟩
theorem Op_spec (m : Mc) (b bp : Nat) (H : HL) (hm : MAt m b bp H) (p : Pt) (hi : p.Inv) (Hp : HL) (hp : PtAt p bp Hp) (q : Rq) (h1 : 1 ≤ q.op) (h8 : q.op ≤ 8) (hq : q.page = m.page) (ho : i64s q.off) (aq : Option Addr) (cq : Nat) (rq : HL) (hrq : RoSl 1 (u8s q.data) aq q.data.length rq) (b1 : Nat) :
  CtrV Tryz.prog (opV b b1 q.op) [q.v aq cq] [Hp, H] ((b1, .cells #[.pointer (some ⟨b, 0, none⟩)] 249 (0, 0)) :: rq) (OpPost (mOp m p q) b bp) := by
 have hF := fetch_spec m b bp H hm p hi Hp hp q hq aq cq
 have hR := Read_spec m b bp H hm p hi Hp hp q ho aq cq b1
 have hW := Write_spec m b bp H hm p hi Hp hp q ho aq cq rq hrq b1
 have hU := UnpinC_spec m b bp H hm p hi Hp hp q aq cq b1
 have hFl := FlushC_spec m b bp H hm p hi Hp hp q aq cq b1
 have hFa := FlushAllC_spec m b bp H hm p hi Hp hp q aq cq b1
 have hD := Discard_spec m b bp H hm p hi Hp hp q aq cq
 have hS := StatsC_spec q aq cq
 have hop : q.op = 1 ∨ q.op = 2 ∨ q.op = 3 ∨ q.op = 4 ∨ q.op = 5 ∨ q.op = 6 ∨ q.op = 7 ∨ q.op = 8 := by omega
 have r1 : ∀ x ∈ ((b1, Obj.cells #[.pointer (some ⟨b, 0, none⟩)] 249 (0, 0)) :: H), x ∈ H ∨ x ∈ ((b1, Obj.cells #[.pointer (some ⟨b, 0, none⟩)] 249 (0, 0)) :: rq) := fun x hx => by
  rcases List.mem_cons.1 hx with rfl | hx
  · exact .inr (List.mem_cons_self)
  · exact .inl hx
 have r2 : ∀ x ∈ ((b1, Obj.cells #[.pointer (some ⟨b, 0, none⟩)] 249 (0, 0)) :: (H ++ rq)), x ∈ H ∨ x ∈ ((b1, Obj.cells #[.pointer (some ⟨b, 0, none⟩)] 249 (0, 0)) :: rq) := fun x hx => by
  rcases List.mem_cons.1 hx with rfl | hx
  · exact .inr (List.mem_cons_self)
  ·
   rcases List.mem_append.1 hx with hx | hx
   · exact .inl hx
   · exact .inr (List.mem_cons_of_mem _ hx)
 have r3 : ∀ x ∈ ((b1, Obj.cells #[.pointer (some ⟨b, 0, none⟩)] 249 (0, 0)) :: Hp), x ∈ Hp ∨ x ∈ ((b1, Obj.cells #[.pointer (some ⟨b, 0, none⟩)] 249 (0, 0)) :: rq) := fun x hx => by
  rcases List.mem_cons.1 hx with rfl | hx
  · exact .inr (List.mem_cons_self)
  · exact .inl hx
 rcases hop with h | h | h | h | h | h | h | h
 ·
  have e : mOp m p q = mFetch m p := by unfold mOp; rw [h]; rfl
  rw [e, h]
  refine Ctr.v (fst := [.pointer (some ⟨b, 0, none⟩)]) (cap := []) (((hF.sel (pre' := [Hp, H]) (X := []) (by repeat (first | exact Sel.nil | (apply Sel.cons; (repeat (first | exact Pick.here | apply Pick.there))))) (fun _ h => h)).ro (fun _ h => by cases h)).out ?_) rfl
  rintro _ _ ⟨_, rfl, H', Hp', rfl, rfl, h2, h3⟩
  have hd : (mFetch m p).2.2.data = [] := by
   unfold mFetch mMiss
   split
   · split <;> rfl
   · split <;> rfl
  exact ⟨[H', Hp'], [H', Hp', []], _, by repeat (first | exact Sel.nil | (apply Sel.cons; (repeat (first | exact Pick.here | apply Pick.there)))), by simp, none, 0, 0, _, _, _, rfl, rfl, h2, h3, by rw [hd]; exact empty_ro, by rw [hd]; rfl⟩
 ·
  have e : mOp m p q = (m, mRead p q) := by unfold mOp; rw [h]; rfl
  rw [e, h]
  refine Ctr.v (fst := []) (cap := [.pointer (some ⟨b1, 0, none⟩)]) ((hR.own r1).out ?_) rfl
  rintro _ _ ⟨_, rfl, a, n, c, Hp', Hd, rfl, rfl, h2, h3, h4⟩
  exact ⟨[H, Hp', Hd], [H, Hp', Hd], _, by repeat (first | exact Sel.nil | (apply Sel.cons; (repeat (first | exact Pick.here | apply Pick.there)))), rfl, a, n, c, _, _, _, rfl, rfl, hm, h2, h3, h4⟩
 ·
  have e : mOp m p q = (m, mWrite p q) := by unfold mOp; rw [h]; rfl
  rw [e, h]
  refine Ctr.v (fst := []) (cap := [.pointer (some ⟨b1, 0, none⟩)]) ((hW.own r2).out ?_) rfl
  rintro _ _ ⟨_, rfl, Hp', rfl, rfl, h2⟩
  have hd : (mWrite p q).2.data = [] := by unfold mWrite; simp only; split <;> rfl
  exact ⟨[H, Hp'], [H, Hp', []], _, by repeat (first | exact Sel.nil | (apply Sel.cons; (repeat (first | exact Pick.here | apply Pick.there)))), by simp, none, 0, 0, _, _, _, rfl, rfl, hm, h2, by rw [hd]; exact empty_ro, by rw [hd]; rfl⟩
 ·
  have e : mOp m p q = (m, (p.doPage q.page Fr.unpin).1, Re.dn (p.doPage q.page Fr.unpin).2) := by unfold mOp; rw [h]; rfl
  rw [e, h]
  refine Ctr.v (fst := []) (cap := [.pointer (some ⟨b1, 0, none⟩)]) ((hU.own r1).out ?_) rfl
  rintro _ _ ⟨_, rfl, Hp', rfl, rfl, h2⟩
  exact ⟨[H, Hp'], [H, Hp', []], _, by repeat (first | exact Sel.nil | (apply Sel.cons; (repeat (first | exact Pick.here | apply Pick.there)))), by simp, none, 0, 0, _, _, _, rfl, rfl, hm, h2, empty_ro, rfl⟩
 ·
  have e : mOp m p q = ({ m with todo := planFlush (selD p q.page p.dirty) }, p, ⟨false, 0, false, [], C6.none⟩) := by unfold mOp; rw [h]; rfl
  rw [e, h]
  refine Ctr.v (fst := []) (cap := [.pointer (some ⟨b1, 0, none⟩)]) (((hFl.own r3).sel (pre' := [Hp, H]) (X := []) (by repeat (first | exact Sel.nil | (apply Sel.cons; (repeat (first | exact Pick.here | apply Pick.there))))) (fun _ h => h)).out ?_) rfl
  rintro _ _ ⟨_, rfl, _, rfl, H', rfl, rfl, h2⟩
  exact ⟨[H', Hp], [H', Hp, []], _, by repeat (first | exact Sel.nil | (apply Sel.cons; (repeat (first | exact Pick.here | apply Pick.there)))), by simp, none, 0, 0, _, _, _, rfl, rfl, h2, hp, empty_ro, rfl⟩
 ·
  have e : mOp m p q = ({ m with todo := planFlush (selD p (-1) p.dirty) }, p, ⟨false, 0, false, [], C6.none⟩) := by unfold mOp; rw [h]; rfl
  rw [e, h]
  refine Ctr.v (fst := []) (cap := [.pointer (some ⟨b1, 0, none⟩)]) (((hFa.own r3).sel (pre' := [Hp, H]) (X := []) (by repeat (first | exact Sel.nil | (apply Sel.cons; (repeat (first | exact Pick.here | apply Pick.there))))) (fun _ h => h)).out ?_) rfl
  rintro _ _ ⟨_, rfl, _, rfl, H', rfl, rfl, h2⟩
  exact ⟨[H', Hp], [H', Hp, []], _, by repeat (first | exact Sel.nil | (apply Sel.cons; (repeat (first | exact Pick.here | apply Pick.there)))), by simp, none, 0, 0, _, _, _, rfl, rfl, h2, hp, empty_ro, rfl⟩
 ·
  have e : mOp m p q = (m, (mDiscard p q.page).1, Re.dn (mDiscard p q.page).2) := by unfold mOp; rw [h]; rfl
  rw [e, h]
  refine Ctr.v (fst := [.pointer (some ⟨b, 0, none⟩)]) (cap := []) ((hD.own (H := H) (fun _ h => .inl h)).out ?_) rfl
  rintro _ _ ⟨_, rfl, Hp', rfl, rfl, h2⟩
  exact ⟨[H, Hp'], [H, Hp', []], _, by repeat (first | exact Sel.nil | (apply Sel.cons; (repeat (first | exact Pick.here | apply Pick.there)))), by simp, none, 0, 0, _, _, _, rfl, rfl, hm, h2, empty_ro, rfl⟩
 ·
  have e : mOp m p q = (m, p, Re.dn 0) := by unfold mOp; rw [h]; rfl
  rw [e, h]
  refine Ctr.v (fst := []) (cap := []) (((hS.frame [Hp, H]).ro (fun _ h => by cases h)).out ?_) rfl
  rintro _ _ ⟨_, rfl, rfl, rfl⟩
  exact ⟨[H, Hp], [H, Hp, []], _, by repeat (first | exact Sel.nil | (apply Sel.cons; (repeat (first | exact Pick.here | apply Pick.there)))), by simp, none, 0, 0, _, _, _, rfl, rfl, hm, hp, empty_ro, rfl⟩
theorem Ops_spec (b : Nat) : Ctr Tryz.prog 264 [.pointer (some ⟨b, 0, none⟩)] [] [] (fun v L' => ∃ bm b1 Hm, v = .map (some bm) ∧ L' = [Hm, [(b1, .cells #[.pointer (some ⟨b, 0, none⟩)] 249 (0, 0))]] ∧ IsMp .i64 id (opsMap b b1) bm Hm) := by
 refine Ctr.enter (n := 14) [.tmp 2] [(0, _)] Tryz.func264 rfl rfl rfl (lb rfl) Tryz.call264 ⟨rfl, trivial⟩ ?_
 intro cx fin fin0
 refine aG ?_
 refine aB ?_
 intro b1
 refine aG ?_
 refine aW NewOf.map ?_
 intro bm
 refine aG ?_
 have hm0 : IsMp .i64 id ([] : List (Int × Value)) bm [(bm, .map #[] 0)] := ⟨#[], 0, rfl, rfl⟩
 generalize hH : [(bm, Obj.map #[] 0)] = Hm0 at hm0
 repeat refine gw ?_
 refine aSkp (mapIns (f := id) (v := opV b b1 1) Tryz.underlying380 Tryz.underlying3 rfl rfl rfl (by intro p hp; simp [hp]) hm0) ?_
 rintro _ ⟨Hm1, rfl, hm1⟩
 refine aG ?_
 repeat refine gw ?_
 refine aSkp (mapIns (f := id) (v := opV b b1 2) Tryz.underlying380 Tryz.underlying3 rfl rfl rfl (by intro p hp; simp [hp]) hm1) ?_
 rintro _ ⟨Hm2, rfl, hm2⟩
 refine aG ?_
 repeat refine gw ?_
 refine aSkp (mapIns (f := id) (v := opV b b1 3) Tryz.underlying380 Tryz.underlying3 rfl rfl rfl (by intro p hp; simp [hp]) hm2) ?_
 rintro _ ⟨Hm3, rfl, hm3⟩
 refine aG ?_
 repeat refine gw ?_
 refine aSkp (mapIns (f := id) (v := opV b b1 4) Tryz.underlying380 Tryz.underlying3 rfl rfl rfl (by intro p hp; simp [hp]) hm3) ?_
 rintro _ ⟨Hm4, rfl, hm4⟩
 refine aG ?_
 repeat refine gw ?_
 refine aSkp (mapIns (f := id) (v := opV b b1 5) Tryz.underlying380 Tryz.underlying3 rfl rfl rfl (by intro p hp; simp [hp]) hm4) ?_
 rintro _ ⟨Hm5, rfl, hm5⟩
 refine aG ?_
 repeat refine gw ?_
 refine aSkp (mapIns (f := id) (v := opV b b1 6) Tryz.underlying380 Tryz.underlying3 rfl rfl rfl (by intro p hp; simp [hp]) hm5) ?_
 rintro _ ⟨Hm6, rfl, hm6⟩
 refine aG ?_
 repeat refine gw ?_
 refine aSkp (mapIns (f := id) (v := opV b b1 7) Tryz.underlying380 Tryz.underlying3 rfl rfl rfl (by intro p hp; simp [hp]) hm6) ?_
 rintro _ ⟨Hm7, rfl, hm7⟩
 refine aG ?_
 repeat refine gw ?_
 refine aSkp (mapIns (f := id) (v := opV b b1 8) Tryz.underlying380 Tryz.underlying3 rfl rfl rfl (by intro p hp; simp [hp]) hm7) ?_
 rintro _ ⟨Hm8, rfl, hm8⟩
 refine aG ?_
 repeat refine gw ?_
 refine W.ret (fin _ _ (FinOk.first 2 (.tmp rfl .nil) rfl ?_))
 exact ⟨bm, b1, _, rfl, rfl, hm8⟩
end Go.Proofs.YtfpghdcjdnifcaaGreat
namespace Go.Proofs.YtfpghdcjdnifcaaGreat
open Go Go.Sl Go.IntWalk
set_option maxHeartbeats 8000000
set_option maxRecDepth 20000
def mBegin (m : Mc) (p : Pt) (q : Rq) : Mc × Pt × Re := mOp { m with op := q.op, page := q.page } p q
theorem Begin_spec (m : Mc) (b bp : Nat) (H : HL) (hm : MAt m b bp H) (p : Pt) (hi : p.Inv) (Hp : HL) (hp : PtAt p bp Hp) (q : Rq) (h1 : 1 ≤ q.op) (h8 : q.op ≤ 8) (ho : i64s q.off) (aq : Option Addr) (cq : Nat) (rq : HL) (hrq : RoSl 1 (u8s q.data) aq q.data.length rq) :
  Ctr Tryz.prog 230 [.pointer (some ⟨b, 0, none⟩), q.v aq cq] [H, Hp] rq (OpPost (mBegin m p q) b bp) := by
 obtain ⟨a, ct, ag, cg, Ht, Hg, rfl, hro, hct, hown⟩ := hm
 have hops := Ops_spec b
 have hCV := fun b1 H1 hm1 => Op_spec { m with op := q.op, page := q.page } b bp H1 hm1 p hi Hp hp q h1 h8 rfl ho aq cq rq hrq b1
 have hget := fun b1 => ops_get b b1 h1 h8
 have hb : mBegin m p q = mOp { m with op := q.op, page := q.page } p q := rfl
 rw [hb]
 generalize mOp { m with op := q.op, page := q.page } p q = out at *
 obtain ⟨qo, qp, qf, ql, qd⟩ := q
 simp only at *
 refine Ctr.enter (n := 22) [.cell 4 350] [(0, _), (1, _)] Tryz.func230 rfl rfl rfl (lb rfl) Tryz.call230 ⟨rfl, rfl, trivial⟩ ?_
 intro cx fin fin0
 refine aG ?_
 repeat (first | refine gw ?_ | refine gN fun _ => ?_ | refine gB fun _ => ?_ | fail)
 refine W.order [2, 0, 0, 0] rfl ?_
 refine W.split3 rfl ?_
 refine aG ?_
 refine W.drawH tab_ok 12 [.b false, .b false, .b false, .b false, .b false, .b false, .b false, .b false, .b true, .b false, .b false, .b true] [0] follows (by decide +kernel) (by decide +kernel) rfl (by decide) rfl ?_
 intro _
 refine dG ?_
 repeat (first | refine dL ?_ | refine dS ?_ | (refine dN ?_; intro _; refine dG ?_) | (refine dB ?_; intro _; refine dG ?_) | fail)
 refine WD.nil (W.dropNil (aG ?_))
 refine W.groupV [0, 0, 0] rfl ?_
 have hm1 : MAt ⟨qo, qp, m.to, m.todo, m.got⟩ b bp _ := ⟨a, ct, ag, cg, Ht, Hg, rfl, hro, hct, hown⟩
 have hCV1 := fun b1 => hCV b1 _ hm1
 refine aG ?_
 refine W.drawH tab_ok 8 [.b false, .b true, .b false, .b false, .b true, .b false, .b true, .b true] [0,1,3] follows (by decide +kernel) (by decide +kernel) rfl (by decide) rfl ?_
 intro _
 refine dG ?_
 refine dC (o := hops) (h := ?_)
 rintro _ _ ⟨bm, b1, Hm, rfl, rfl, es, clock, rfl, hmap⟩
 refine dG ?_
 repeat (first | refine dL ?_ | refine dS ?_ | (refine dN ?_; intro _; refine dG ?_) | (refine dB ?_; intro _; refine dG ?_) | fail)
 refine dVA (OpVal.lookup1 Tryz.underlying380 Tryz.underlying3 rfl rfl (at_own 0 rfl) hmap (hget b1)) ?_
 repeat (first | refine dL ?_ | refine dS ?_ | (refine dN ?_; intro _; refine dG ?_) | (refine dB ?_; intro _; refine dG ?_) | fail)
 refine WD.callV rfl rfl rfl (hCV1 b1) (by repeat (first | exact Sel.nil | (apply Sel.cons; (repeat (first | exact Pick.here | apply Pick.there))))) (RoIn.cons (at_own 1 rfl) (RoIn.all fun q hq => List.mem_append_right _ hq)) (lb rfl) ?_
 rintro _ _ ⟨an, nn, cn, H', Hp', Hd, rfl, rfl, g1, g2, g3, g4⟩
 refine dG ?_
 repeat (first | refine dL ?_ | refine dS ?_ | (refine dN ?_; intro _; refine dG ?_) | (refine dB ?_; intro _; refine dG ?_) | fail)
 refine WD.nil (W.dropNil (aG ?_))
 repeat refine gw ?_
 refine W.ret (fin _ _ (FinOk.first 3 (aRc .nil) rfl ?_))
 exact ⟨_, _, _, _, _, _, rfl, rfl, g1, g2, g3, g4⟩
def mStep (m : Mc) (p : Pt) (bs : List Int) : Mc × Pt × C6 :=
 if m.io.1 = 2 ∧ m.io.2.2 = 1 then ({ m with todo := m.todo.tail }, mStored m p m.io.2.1) else if m.io.1 = 1 then ({ m with todo := m.todo.tail, got := m.got ++ bs }, p, C6.none) else ({ m with todo := m.todo.tail }, p, C6.none)
def mEnd (m : Mc) (p : Pt) (e : Int) (bs : List Int) : Mc × Pt × Re :=
 if e ≠ 0 then (Mc.idle, p, ⟨true, 9, false, [], ⟨0, 0, 0, 0, 0, 1⟩⟩)
 else if 0 < (mStep m p bs).1.todo.length then ((mStep m p bs).1, (mStep m p bs).2.1, ⟨false, 0, false, [], (mStep m p bs).2.2⟩)
 else (Mc.idle, if m.op = 1 then (((mStep m p bs).2.1.load m.to m.page (mStep m p bs).1.got).1.doPage m.page Fr.pin).1 else (mStep m p bs).2.1, ⟨true, 0, false, [], (mStep m p bs).2.2⟩)
theorem End_spec (m : Mc) (hne : m.todo ≠ []) (b bp : Nat) (H : HL) (hm : MAt m b bp H) (p : Pt) (hi : p.Inv) (Hp : HL) (hp : PtAt p bp Hp) (e : Int) (bs : List Int) (ab : Option Addr) (cb : Nat) (rb : HL) (hrb : RoSl 1 (u8s bs) ab bs.length rb)
  (hok : e = 0 → m.got.length + bs.length ≤ 100000 ∧ (mStep m p bs).2.1.Inv ∧ ((mStep m p bs).2.1.load m.to m.page (mStep m p bs).1.got).1.Inv) :
  Ctr Tryz.prog 231 [.pointer (some ⟨b, 0, none⟩), .int .i64 e, .slice ab bs.length cb] [H, Hp] rb (fun v L' => ∃ H' Hp', v = (mEnd m p e bs).2.2.v none 0 0 ∧ L' = [H', Hp'] ∧ MAt (mEnd m p e bs).1 b bp H' ∧ PtAt (mEnd m p e bs).2.1 bp Hp') := by
 have hStop := Stop_spec m b bp H hm
 have hdone := done_spec 9
 obtain ⟨a, ct, ag, cg, Ht, Hg, rfl, hro, hct, hown⟩ := hm
 have hout : mEnd m p e bs = mEnd m p e bs := rfl
 conv at hout => rhs; unfold mEnd
 generalize mEnd m p e bs = out at *
 by_cases he : e = 0
 ·
  obtain ⟨hlen, hsi, hli⟩ := hok he
  rw [if_neg (by simpa using he)] at hout
  obtain ⟨mo, mpg, mto, todo, mgot⟩ := m
  cases todo with
  | nil => exact absurd rfl hne
  | cons x rest =>
   obtain ⟨xk, xp, xq⟩ := x
   have h0 : 0 < ((xk, xp, xq) :: rest).length := by simp
   have hl1 : 1 ≤ ((xk, xp, xq) :: rest).length := by simp
   obtain ⟨bx, ox, lx, ex, frx, hbx, hHt, hs, -⟩ := RoSl.at (f := io3) (m := 3) (fun _ => rfl) hro h0
   have hro2 : RoSl 3 (ios rest) (a.map fun ad => if ct = 1 then ad else ad.add (1 * 3)) rest.length Ht := by
    rcases RoSl.drop (f := io3) (cap := ct) (fun _ => rfl) hro 1 hl1 with h | h
    · exact h
    · omega
   have hct2 : rest.length ≤ ct - 1 := by simp at hct; omega
   subst hbx hHt
   refine Ctr.enter (n := 97) [.cell 6 350] [(0, _), (1, _), (2, _)] Tryz.func231 rfl rfl rfl (lb rfl) Tryz.call231 ⟨rfl, rfl, rfl, trivial⟩ ?_
   intro cx fin fin0
   refine aG ?_
   repeat (first | refine gw ?_ | refine gN fun _ => ?_ | refine gB fun _ => ?_ | fail)
   refine aF ?_ (hb := by exact gd he)
   refine W.order [1, 1, 0] rfl ?_
   refine W.split3 rfl ?_
   refine aG ?_
   repeat refine gw ?_
   refine aV (OpVal.ixSl tab_ok rfl rfl rfl rfl rfl h0) ?_
   refine aV (OpVal.loadN ty_273.1 ty_273.2 rfl (at_own 1 rfl) hs) ?_
   repeat (first | refine gw ?_ | refine gN fun _ => ?_ | refine gB fun _ => ?_ | fail)
   refine aV (OpVal.back tab_ok rfl rfl rfl rfl rfl hl1 hct) ?_
   repeat (first | refine gw ?_ | refine gN fun _ => ?_ | refine gB fun _ => ?_ | fail)
   have hms : mStep ⟨mo, mpg, mto, (xk, xp, xq) :: rest, mgot⟩ p bs = if xk = 2 ∧ xq = 1 then (⟨mo, mpg, mto, rest, mgot⟩, mStored ⟨mo, mpg, mto, rest, mgot⟩ p xp) else if xk = 1 then (⟨mo, mpg, mto, rest, mgot ++ bs⟩, p, C6.none) else (⟨mo, mpg, mto, rest, mgot⟩, p, C6.none) := rfl
   have hgl : mgot.length + bs.length ≤ 100000 := hlen
   generalize mStep ⟨mo, mpg, mto, (xk, xp, xq) :: rest, mgot⟩ p bs = st at *
   by_cases hA : xk = 2 ∧ xq = 1
   case' pos =>
    rw [if_pos hA] at hms
    obtain ⟨rfl, rfl⟩ := hA
    repeat refine gx ?_
    refine W.groupV [2, 2, 2] rfl ?_
    have hm1 : MAt ⟨mo, mpg, mto, rest, mgot⟩ b bp _ := ⟨_, _, _, _, _, _, rfl, hro2, hct2, hown⟩
    have hSt := Stored_spec ⟨mo, mpg, mto, rest, mgot⟩ b bp _ hm1 p hi Hp hp xp
    refine aG ?_
    repeat refine gx ?_
    refine aC (o := hSt) (h := ?_) (hro := RoIn.own 0 rfl)
    rintro _ _ ⟨Hp2, rfl, rfl, hp2⟩
    refine aG ?_
    repeat refine gx ?_
    refine W.order [1, 0, 0, 0, 0] rfl ?_
    refine W.split3 rfl ?_
    have hown2 := hown
   case' neg =>
    rw [if_neg hA] at hms
    have hp2 := hp
    by_cases hB : xk = 1
    case' pos =>
     rw [if_pos hB] at hms
     subst hB
     repeat refine gx ?_
     refine aPr (appU8 tab_ok rfl rfl rfl hown (by intro p hp; simp [hp]) rfl hrb (fun q hq => .inr hq) (by omega) (by omega)) ?_
     rintro _ _ ⟨ag2, cg2, Hg2, rfl, rfl, hown2⟩
     refine aG ?_
     repeat refine gx ?_
     have hm1 : MAt ⟨mo, mpg, mto, rest, mgot ++ bs⟩ b bp _ := ⟨_, _, _, _, _, _, rfl, hro2, hct2, hown2⟩
     refine W.order [3, 3, 0, 2, 0, 0, 0] rfl ?_
     refine aG ?_
    case' neg =>
     rw [if_neg hB] at hms
     have hown2 := hown
     have hm1 : MAt ⟨mo, mpg, mto, rest, mgot⟩ b bp _ := ⟨_, _, _, _, _, _, rfl, hro2, hct2, hown⟩
     by_cases h2 : xk = 2
     case' pos =>
      have hq1 : ¬ xq = 1 := fun h => hA ⟨h2, h⟩
      subst h2
      repeat refine gh hq1 ?_
     case' neg =>
      repeat refine gh (gc2 h2 hB) ?_
     all_goals
      refine W.order [2, 2, 2, 2, 0, 0, 0] rfl ?_
      refine aG ?_
   all_goals
    refine aC (o := Busy_spec _ b bp _ hm1) (h := ?_) (hro := RoIn.append (RoIn.own 0 rfl) (RoIn.append (RoIn.own 1 rfl) (RoIn.own 2 rfl)))
    rintro _ _ ⟨rfl, rfl⟩
    refine aG ?_
    cases rest with
    | cons y rest =>
     have hpos : 0 < st.1.todo.length := by rw [hms]; simp
     rw [if_pos hpos] at hout
     subst hout hms
     repeat refine gx ?_
     refine W.groupV [0, 0, 0] rfl ?_
     refine W.order [0, 0, 2] rfl ?_
     refine W.ret (fin _ _ (FinOk.first 2 (aRc .nil) rfl ?_))
     exact ⟨_, _, rfl, rfl, hm1, hp2⟩
    | nil =>
     have hpos : ¬ 0 < st.1.todo.length := by rw [hms]; simp
     rw [if_neg hpos] at hout
     repeat refine gx ?_
     by_cases ho : mo = 1
     case' pos =>
      rw [if_pos ho] at hout
      subst ho
      subst hms
      have hL := fun cb => Load_spec _ hsi.ok bp _ hp2 mto mpg _ _ cb _ (Own.roSl hown2)
      repeat refine gx ?_
      refine W.drawH tab_ok 17 [.b false, .b false, .b false, .b false, .b false, .b false, .b false, .b false, .b false, .b false, .b false, .b false, .b false, .b false, .b false, .b false, .b true] [3] follows (by decide +kernel) (by decide +kernel) rfl (by decide) rfl ?_
      intro _
      refine dG ?_
      repeat (first | refine dL ?_ | refine dS ?_ | (refine dN ?_; intro _; refine dG ?_) | (refine dB ?_; intro _; refine dG ?_) | fail)
      refine dC (o := hL _) (h := ?_) (hro := RoIn.all (fun q hq => by simp [hq]))
      rintro _ _ ⟨rfl, Hp3, rfl, hp3⟩
      refine dG ?_
      refine WD.nil (W.dropNil (aG ?_))
      have hPn := PPin_spec _ hli bp Hp3 hp3 mpg
      refine W.drawH tab_ok 9 [.b false, .b false, .b false, .b false, .b false, .b false, .b false, .b false, .b true] [0] follows (by decide +kernel) (by decide +kernel) rfl (by decide) rfl ?_
      intro _
      refine dG ?_
      repeat (first | refine dL ?_ | refine dS ?_ | (refine dN ?_; intro _; refine dG ?_) | (refine dB ?_; intro _; refine dG ?_) | fail)
      refine dC (o := hPn) (h := ?_)
      rintro _ _ ⟨rfl, Hp4, rfl, hp4⟩
      refine dG ?_
      refine WD.nil (W.dropNil (aG ?_))
      refine W.groupV [1, 1, 1] rfl ?_
      have hp5 := hp4
     case' neg =>
      rw [if_neg ho] at hout
      subst hms
      repeat refine gh ho ?_
      refine W.groupV [0, 0, 0] rfl ?_
      have hp5 := hp2
     all_goals
      subst hout
      refine aG ?_
      refine aC (o := Stop_spec _ b bp _ hm1) (h := ?_)
      rintro _ _ ⟨H', rfl, hm'⟩
      refine aG ?_
      repeat refine gw ?_
      refine W.order [0, 0, 2] rfl ?_
      refine W.ret (fin _ _ (FinOk.first 2 (aRc .nil) rfl ?_))
      exact ⟨_, _, rfl, rfl, hm', hp5⟩
 ·
  rw [if_pos (by simpa using he)] at hout
  subst hout
  refine Ctr.enter (n := 97) [.cell 6 350] [(0, _), (1, _), (2, _)] Tryz.func231 rfl rfl rfl (lb rfl) Tryz.call231 ⟨rfl, rfl, rfl, trivial⟩ ?_
  intro cx fin fin0
  refine aG ?_
  repeat (first | refine gw ?_ | refine gN fun _ => ?_ | refine gB fun _ => ?_ | fail)
  refine aT ?_ (hb := by exact gd he)
  refine aC (o := hStop) (h := ?_)
  rintro _ _ ⟨H', rfl, hm'⟩
  refine aG ?_
  refine aC (o := hdone) (h := ?_)
  rintro _ _ ⟨rfl, rfl⟩
  refine aG ?_
  repeat (first | refine gw ?_ | refine gN fun _ => ?_ | refine gB fun _ => ?_ | fail)
  refine W.order [1, 2, 1] rfl ?_
  refine W.ret (fin _ _ (FinOk.first 2 (aRc .nil) rfl ?_))
  exact ⟨_, _, rfl, rfl, hm', hp⟩
end Go.Proofs.YtfpghdcjdnifcaaGreat
namespace Go.Proofs.YtfpghdcjdnifcaaGreat
open Go Go.Sl Go.IntWalk
set_option maxHeartbeats 8000000
set_option maxRecDepth 20000
theorem turn_some {hand : Nat} : ∀ {m k : Nat} {fs : List Fl} {i q : Nat}, (turnFrom hand m k fs).2 = some (i, q) → 0 < fs.length → i < fs.length ∧ (((turnFrom hand m k fs).1.getD i Fl.none).used = false ∨ ((turnFrom hand m k fs).1.getD i Fl.none).pins = 0)
 | 0, k, fs, i, q, h, _ => by cases h
 | m + 1, k, fs, i, q, h, h0 => by
  have hc := Nat.mod_lt (hand + k) h0
  unfold turnFrom at h ⊢
  split at h
  ·
   rename_i hg
   simp only [Option.some.injEq, Prod.mk.injEq] at h
   obtain ⟨rfl, -⟩ := h
   rw [if_pos hg]
   refine ⟨hc, ?_⟩
   simp only
   rw [getD_set_eq hc]
   generalize fs.getD ((hand + k) % fs.length) Fl.none = f at hg
   unfold Fl.goes at hg ⊢
   split
   · rename_i hu; exact .inl hu
   ·
    rename_i hu
    rw [if_neg hu] at hg
    split
    · rename_i hp; exact .inr hp
    · rename_i hp; rw [if_neg hp] at hg; cases hg
  ·
   rename_i hg
   rw [if_neg hg]
   have := turn_some h (by simpa using h0)
   simpa using this
theorem victim_some {p : Pt} (hi : p.Inv) {i : Nat} (h : p.victim.2 = some i) : i < p.victim.1.fs.length ∧ (p.victim.1.at_ (i : Int)).pins = 0 := by
 have hl : p.victim.1.fs.length = p.fs.length := setAll_len _ _
 have h1 := hi.ok.2.1
 have hv := Pt.victim_inv hi
 unfold Pt.victim at h
 simp only [Option.map_eq_some_iff, Prod.exists, exists_and_right, exists_eq_right] at h
 obtain ⟨q, hq⟩ := h
 have := turn_some hq (by simp; omega)
 obtain ⟨h2, h3⟩ := this
 have h4 : i < p.fs.length := by simpa using h2
 refine ⟨by omega, ?_⟩
 rw [Pt.at_nat (by omega)]
 have h5 : (turnFrom p.hand.toNat (2 * p.fs.length) 0 (p.fs.map Fr.fl)).1.length = p.fs.length := by rw [turnFrom_len]; simp
 have h6 : p.victim.1.fs[i]'(by omega) = p.fs[i].setFl ((turnFrom p.hand.toNat (2 * p.fs.length) 0 (p.fs.map Fr.fl)).1[i]'(by omega)) := setAll_get _ _ i (by rw [setAll_len]; exact h4) h4 (by omega)
 have h7 : (turnFrom p.hand.toNat (2 * p.fs.length) 0 (p.fs.map Fr.fl)).1.getD i Fl.none = (turnFrom p.hand.toNat (2 * p.fs.length) 0 (p.fs.map Fr.fl)).1[i]'(by omega) := getD_eq (by omega)
 rw [h7] at h3
 rcases h3 with h3 | h3
 ·
  have h8 := hv.emp (p.victim.1.fs[i]'(by omega)) (List.getElem_mem _) (by rw [h6]; exact h3)
  rw [h8]
  rfl
 ·
  rw [h6]
  exact h3
def DocM (m : Mc) (p : Pt) (v : Value) (D : HL) : Prop := ∃ a c r at_ ct rt ag cg rg, v = .agg (List.toArray [.slice a p.fs.length c, .int .i64 p.hand, .int .i64 m.op, .int .i64 m.page, .slice at_ m.todo.length ct, .int .i64 m.to, .slice ag m.got.length cg]) ∧
 RoSl 6 (dflat p.fs) a p.fs.length r ∧ RoSl 3 (ios m.todo) at_ m.todo.length rt ∧ RoSl 1 (u8s m.got) ag m.got.length rg ∧ m.todo.length ≤ ct ∧ (∀ q ∈ r, q ∈ D) ∧ (∀ q ∈ rt, q ∈ D) ∧ (∀ q ∈ rg, q ∈ D)
theorem DocM.mono {m : Mc} {p : Pt} {v : Value} {D D' : HL} (h : DocM m p v D) (hs : ∀ q ∈ D, q ∈ D') : DocM m p v D' := by
 obtain ⟨a, c, r, at_, ct, rt, ag, cg, rg, h1, h2, h3, h4, h5, h6, h7, h8⟩ := h
 exact ⟨a, c, r, at_, ct, rt, ag, cg, rg, h1, h2, h3, h4, h5, fun q hq => hs q (h6 q hq), fun q hq => hs q (h7 q hq), fun q hq => hs q (h8 q hq)⟩
def Re.d (r : Re) : Value := .agg #[.bool r.done, .int .i64 r.errno, .bool r.hit, .string (bstr r.data), .int .u64 r.add.h, .int .u64 r.add.m, .int .u64 r.add.e, .int .u64 r.add.r, .int .u64 r.add.w, .int .u64 r.add.f]
end Go.Proofs.YtfpghdcjdnifcaaGreat
namespace Go.Proofs.YtfpghdcjdnifcaaGreat
open Go Go.Sl Go.IntWalk
set_option maxHeartbeats 8000000
set_option maxRecDepth 20000
theorem DocM.keep {m' : Mc} {p' : Pt} {a c r at_ ct rt ag cg rg} {D H : HL} (h2 : RoSl 6 (dflat p'.fs) a p'.fs.length r) (h3 : RoSl 3 (ios m'.todo) at_ m'.todo.length rt) (h4 : RoSl 1 (u8s m'.got) ag m'.got.length rg) (h5 : m'.todo.length ≤ ct)
  (h6 : ∀ q ∈ r, q ∈ H ++ D) (h7 : ∀ q ∈ rt, q ∈ H ++ D) (h8 : ∀ q ∈ rg, q ∈ D) :
  DocM m' p' (.agg (List.toArray [.slice a p'.fs.length c, .int .i64 p'.hand, .int .i64 m'.op, .int .i64 m'.page, .slice at_ m'.todo.length ct, .int .i64 m'.to, .slice ag m'.got.length cg])) (H ++ D) :=
 ⟨a, c, r, at_, ct, rt, ag, cg, rg, rfl, h2, h3, h4, h5, h6, h7, fun q hq => List.mem_append_right _ (h8 q hq)⟩
end Go.Proofs.YtfpghdcjdnifcaaGreat
namespace Go.Proofs.YtfpghdcjdnifcaaGreat
open Go Go.Sl Go.IntWalk
set_option maxHeartbeats 8000000
set_option maxRecDepth 20000
def dpgs (fs : List Fr) (g : Fr → Bool) : List Int := (fs.filter fun f => f.dirty && g f).map Fr.page
theorem selD_from (p : Pt) (page : Int) : ∀ (fs : List Fr) (k : Nat), (∀ i (h : i < fs.length), p.at_ ((k + i : Nat) : Int) = fs[i]) → selD p page (dirtyFrom fs k) = dpgs fs fun f => decide (page < 0) || decide (f.page = page)
 | [], _, _ => rfl
 | f :: fs, k, h => by
  have h0 := h 0 (by simp)
  simp only [Nat.add_zero, List.getElem_cons_zero] at h0
  have ih := selD_from p page fs (k + 1) fun i hi => by
   have := h (i + 1) (by simp; omega)
   rw [show k + 1 + i = k + (i + 1) by omega, this]
   rfl
  unfold selD dpgs at ih ⊢
  unfold dirtyFrom
  by_cases hd : f.dirty = true
  ·
   rw [if_pos hd, List.filter_cons, List.filter_cons, h0]
   simp only [hd, Bool.true_and]
   split
   · simp only [List.map_cons, h0, ih]
   · exact ih
  ·
   rw [if_neg hd, List.filter_cons, if_neg (by simp [hd])]
   exact ih
theorem selD_eq (p : Pt) (page : Int) : selD p page p.dirty = dpgs p.fs fun f => decide (page < 0) || decide (f.page = page) :=
 selD_from p page p.fs 0 fun i h => by rw [Nat.zero_add]; exact Pt.at_nat h
end Go.Proofs.YtfpghdcjdnifcaaGreat
namespace Go.Proofs.YtfpghdcjdnifcaaGreat
open Go Go.Sl Go.IntWalk
set_option maxHeartbeats 8000000
set_option maxRecDepth 20000
end Go.Proofs.YtfpghdcjdnifcaaGreat
namespace Go.Proofs.YtfpghdcjdnifcaaGreat
open Go Go.Sl Go.IntWalk
set_option maxHeartbeats 8000000
set_option maxRecDepth 20000
end Go.Proofs.YtfpghdcjdnifcaaGreat
namespace Go.Proofs.YtfpghdcjdnifcaaGreat
set_option linter.unusedVariables false
open Go Go.Sl Go.IntWalk
set_option maxHeartbeats 4000000
set_option maxRecDepth 20000
def lds (t : List Io) : Nat := (t.filter fun x => decide (x.1 = 1)).length
structure MInv (m : Mc) (p : Pt) : Prop where
 inv : p.Inv
 u8 : u8ok m.got
 idle : m.todo = [] → m.got = []
 room : m.got.length + 16 * lds m.todo ≤ 32
 sto : ∀ x ∈ m.todo, x.1 = 2 → (x.2.2 = 0 ∨ x.2.2 = 1) ∧ ∃ j : Nat, j < p.fs.length ∧ mget p.tbl x.2.1 = some (j : Int) ∧ (m.op = 1 → (p.at_ j).pins = 0)
 one : m.op = 1 → ∀ l x r, m.todo = l ++ x :: r → x.1 = 2 → x.2.2 = 1 → ∀ y ∈ r, y.1 ≠ 2
theorem MInv.same {m m' : Mc} {p p' : Pt} (hp : p'.Inv) (ht : m'.todo = []) (hg : m'.got = []) : MInv m' p' :=
 ⟨hp, by rw [hg]; (intro b hb; cases hb), fun _ => hg, by rw [hg, ht]; decide, (by rw [ht]; intro x hx; cases hx), by rw [ht]; intro _ l x r h; simp at h⟩
theorem idle_inv {p : Pt} (hp : p.Inv) : MInv Mc.idle p := MInv.same (m := Mc.idle) (p := p) hp rfl rfl
theorem mem_pages {k : Int} {ps : List Int} {x : Io} (h : x ∈ pages k ps) : x.1 = k ∧ x.2.1 ∈ ps ∧ (x.2.2 = 0 ∨ x.2.2 = 1) := by
 unfold pages at h
 obtain ⟨q, hq, hx⟩ := List.mem_flatMap.1 h
 simp only [both, List.mem_cons, List.not_mem_nil, or_false] at hx
 rcases hx with rfl | rfl
 · exact ⟨rfl, hq, .inl rfl⟩
 · exact ⟨rfl, hq, .inr rfl⟩
theorem lds_pages2 (ps : List Int) : lds (pages 2 ps) = 0 := by
 unfold lds
 rw [List.filter_eq_nil_iff.2]
 · rfl
 ·
  intro x hx
  rw [(mem_pages hx).1]
  decide
theorem lds_append (a b : List Io) : lds (a ++ b) = lds a + lds b := by unfold lds; simp
theorem dirty_used {p : Pt} (hi : p.Inv) {j : Nat} (hj : j < p.fs.length) (hd : p.fs[j].dirty = true) : p.fs[j].used = true := by
 by_cases hu : p.fs[j].used = true
 · exact hu
 ·
  have := hi.emp _ (List.getElem_mem hj) (by simpa using hu)
  rw [this] at hd
  cases hd
theorem mem_dpgs {p : Pt} (hi : p.Inv) {g : Fr → Bool} {x : Int} (h : x ∈ dpgs p.fs g) : ∃ j : Nat, j < p.fs.length ∧ mget p.tbl x = some (j : Int) := by
 unfold dpgs at h
 obtain ⟨f, hf, rfl⟩ := List.mem_map.1 h
 obtain ⟨hf1, hf2⟩ := List.mem_filter.1 hf
 obtain ⟨j, hj, rfl⟩ := List.getElem_of_mem hf1
 simp only [Bool.and_eq_true] at hf2
 exact ⟨j, hj, hi.inv j hj (dirty_used hi hj hf2.1)⟩
theorem flush_inv {m : Mc} {p : Pt} (hi : p.Inv) (hop : m.op ≠ 1) (hg : m.got = []) (ds : List Int) (hds : ∀ x ∈ ds, ∃ j : Nat, j < p.fs.length ∧ mget p.tbl x = some (j : Int)) : MInv { m with todo := planFlush ds } p := by
 refine ⟨hi, by rw [hg]; (intro b hb; cases hb), fun h => hg, ?_, fun x hx hk => ?_, fun h => absurd h hop⟩
 ·
  simp only
  rw [hg]
  unfold planFlush
  rw [lds_append, lds_pages2]
  decide
 ·
  simp only [planFlush, List.mem_append, List.mem_cons, List.not_mem_nil, or_false] at hx
  rcases hx with hx | rfl
  ·
   obtain ⟨h1, h2, h3⟩ := mem_pages hx
   obtain ⟨j, hj, h4⟩ := hds _ h2
   exact ⟨h3, j, hj, h4, fun h => absurd h hop⟩
  · exact absurd hk (by decide)
theorem begin_inv {m : Mc} {p : Pt} (h : MInv m p) (ht : m.todo = []) {q : Rq} (h1 : 1 ≤ q.op) (h8 : q.op ≤ 8) (hu : u8ok q.data) : MInv (mBegin m p q).1 (mBegin m p q).2.1 := by
 have hi := h.inv
 have hg := h.idle ht
 have hop : q.op = 1 ∨ q.op = 2 ∨ q.op = 3 ∨ q.op = 4 ∨ q.op = 5 ∨ q.op = 6 ∨ q.op = 7 ∨ q.op = 8 := by omega
 obtain ⟨qo, qp, qf, ql, qd⟩ := q
 simp only at hop hu
 rcases hop with rfl | rfl | rfl | rfl | rfl | rfl | rfl | rfl
 ·
  show MInv (mFetch ⟨1, qp, m.to, m.todo, m.got⟩ p).1 (mFetch ⟨1, qp, m.to, m.todo, m.got⟩ p).2.1
  unfold mFetch
  simp only
  split
  · exact MInv.same (m := m) (p := p) (Pt.doPage_inv hi qp pin_keeps) ht hg
  ·
   have hvi := Pt.victim_inv hi
   unfold mMiss
   cases hv : p.victim.2 with
   | none => exact MInv.same (m := m) (p := p) hvi ht hg
   | some i =>
    obtain ⟨hj, hp0⟩ := victim_some hi hv
    simp only
    cases hd : (p.victim.1.at_ (i : Int)).dirty with
    | false =>
     have hi2 : (if (p.victim.1.at_ (i : Int)).used = true ∧ False then (p.victim.1.release (i : Int)).1 else p.victim.1).Inv := by
      split
      · exact Pt.release_inv hvi _
      · exact hvi
     refine ⟨?_, by rw [hg]; (intro b hb; cases hb), fun _ => hg, ?_, fun x hx hk => ?_, fun _ l x r hl hk => ?_⟩
     ·
      split
      · exact Pt.release_inv hvi _
      · exact hvi
     · rw [hg]; exact Nat.le_refl 32
     ·
      simp only [planFetch] at hx
      rw [if_neg (by simp)] at hx
      have := (mem_pages (by simpa using hx)).1
      omega
     ·
      have hx : x ∈ planFetch qp false (p.victim.1.at_ (i : Int)).page := by
       have e : planFetch qp false (p.victim.1.at_ (i : Int)).page = l ++ x :: r := hl
       rw [e]; simp
      simp only [planFetch] at hx
      rw [if_neg (by simp)] at hx
      have := (mem_pages (by simpa using hx)).1
      omega
    | true =>
     rw [if_neg (by simp)]
     have hus : (p.victim.1.at_ (i : Int)).used = true := by
      rw [Pt.at_nat hj] at hd ⊢
      exact dirty_used hvi hj hd
     refine ⟨hvi, by rw [hg]; (intro b hb; cases hb), fun _ => hg, ?_, fun x hx hk => ?_, fun _ l x r hl hk hk2 y hy => ?_⟩
     · rw [hg]; exact Nat.le_refl 32
     ·
      have hx2 : x ∈ planFetch qp true (p.victim.1.at_ (i : Int)).page := hx
      simp only [planFetch, if_true, List.mem_append] at hx2
      rcases hx2 with hx2 | hx2
      ·
       obtain ⟨_, h2, h3⟩ := mem_pages hx2
       simp only [List.mem_cons, List.not_mem_nil, or_false] at h2
       refine ⟨h3, i, hj, ?_, fun _ => hp0⟩
       rw [h2, Pt.at_nat hj]
       rw [Pt.at_nat hj] at hus
       exact hvi.inv i hj hus
      ·
       have := (mem_pages hx2).1
       omega
     ·
      generalize (p.victim.1.at_ (i : Int)).page = o at hl
      have hl2 : [((2 : Int), o, (0 : Int)), (2, o, 1), (1, qp, 0), (1, qp, 1)] = l ++ x :: r := hl
      match l, hl2 with
      | [], e => simp only [List.nil_append, List.cons.injEq] at e; obtain ⟨rfl, -⟩ := e; exact absurd hk2 (by simp)
      | [_], e =>
       simp only [List.cons_append, List.nil_append, List.cons.injEq] at e
       obtain ⟨-, rfl, rfl⟩ := e
       simp only [List.mem_cons, List.not_mem_nil, or_false] at hy
       rcases hy with rfl | rfl <;> simp
      | [_, _], e => simp only [List.cons_append, List.nil_append, List.cons.injEq] at e; obtain ⟨-, -, rfl, -⟩ := e; exact absurd hk (by simp)
      | [_, _, _], e => simp only [List.cons_append, List.nil_append, List.cons.injEq] at e; obtain ⟨-, -, -, rfl, -⟩ := e; exact absurd hk (by simp)
      | _ :: _ :: _ :: _ :: l, e => simp at e
 · exact MInv.same (m := m) (p := p) (Pt.get_inv hi qp qf ql) ht hg
 · exact MInv.same (m := m) (p := p) (Pt.doPage_inv hi qp (put_keeps qf hu)) ht hg
 · exact MInv.same (m := m) (p := p) (Pt.doPage_inv hi qp unpin_keeps) ht hg
 · exact flush_inv (m := ⟨5, qp, m.to, m.todo, m.got⟩) hi (by simp) hg _ (fun x hx => by rw [selD_eq] at hx; exact mem_dpgs hi hx)
 · exact flush_inv (m := ⟨6, qp, m.to, m.todo, m.got⟩) hi (by simp) hg _ (fun x hx => by rw [selD_eq] at hx; exact mem_dpgs hi hx)
 ·
  show MInv ⟨7, qp, m.to, m.todo, m.got⟩ (mDiscard p qp).1
  refine MInv.same (m := m) (p := p) ?_ ht hg
  unfold mDiscard
  split
  · exact hi
  · exact Pt.release_inv hi _
 · exact MInv.same (m := m) (p := p) hi ht hg
theorem clean_tbl (p : Pt) (i : Int) : (p.clean i).1.tbl = p.tbl := by unfold Pt.clean; split <;> rfl
theorem clean_len (p : Pt) (i : Int) : (p.clean i).1.fs.length = p.fs.length := by
 unfold Pt.clean
 split
 · rfl
 · simp [Pt.setF]
theorem mStep_inv {m : Mc} {p : Pt} (h : MInv m p) (hne : m.todo ≠ []) {bs : List Int} (hu : u8ok bs) (hl : bs.length = 16) :
  (mStep m p bs).2.1.Inv ∧ u8ok (mStep m p bs).1.got ∧ (mStep m p bs).1.got.length + 16 * lds (mStep m p bs).1.todo ≤ 32 ∧ (mStep m p bs).1.op = m.op ∧ (mStep m p bs).1.todo = m.todo.tail ∧
   ((mStep m p bs).1.todo ≠ [] → MInv (mStep m p bs).1 (mStep m p bs).2.1) := by
 obtain ⟨mo, mpg, mto, todo, mgot⟩ := m
 have hi := h.inv
 cases todo with
 | nil => exact absurd rfl hne
 | cons x rest =>
  obtain ⟨xk, xp, xq⟩ := x
  have hms : mStep ⟨mo, mpg, mto, (xk, xp, xq) :: rest, mgot⟩ p bs = if xk = 2 ∧ xq = 1 then (⟨mo, mpg, mto, rest, mgot⟩, mStored ⟨mo, mpg, mto, rest, mgot⟩ p xp) else if xk = 1 then (⟨mo, mpg, mto, rest, mgot ++ bs⟩, p, C6.none) else (⟨mo, mpg, mto, rest, mgot⟩, p, C6.none) := rfl
  have hlds : lds ((xk, xp, xq) :: rest) = (if xk = 1 then 1 else 0) + lds rest := by
   unfold lds
   rw [List.filter_cons]
   by_cases hk : xk = 1
   · simp [hk]; omega
   · simp [hk]
  have hroom := h.room
  simp only at hroom
  rw [hlds] at hroom
  have hone : mo = 1 → ∀ l x r, rest = l ++ x :: r → x.1 = 2 → x.2.2 = 1 → ∀ y ∈ r, y.1 ≠ 2 := fun h1 l x r he => h.one h1 ((xk, xp, xq) :: l) x r (by show _ :: rest = _; rw [he]; rfl)
  have hsto : ∀ x ∈ rest, x.1 = 2 → (x.2.2 = 0 ∨ x.2.2 = 1) ∧ ∃ j : Nat, j < p.fs.length ∧ mget p.tbl x.2.1 = some (j : Int) ∧ (mo = 1 → (p.at_ j).pins = 0) := fun x hx => h.sto x (List.mem_cons_of_mem _ hx)
  rw [hms]
  by_cases hA : xk = 2 ∧ xq = 1
  ·
   rw [if_pos hA]
   obtain ⟨rfl, rfl⟩ := hA
   obtain ⟨-, j, hj, hg, hpin⟩ := h.sto _ (List.mem_cons_self) rfl
   simp only at hg hpin
   have hci := Pt.clean_inv hi (j : Int)
   rw [if_neg (by decide)] at hroom
   have hr : mgot.length + 16 * lds rest ≤ 32 := by omega
   unfold mStored
   rw [hg]
   simp only [Option.getD_some]
   by_cases ho : mo = 1
   ·
    rw [if_pos ho]
    have hri := Pt.release_inv hci (j : Int)
    refine ⟨hri, h.u8, hr, by first | trivial | rfl, by first | trivial | rfl, fun hne2 => ⟨hri, h.u8, fun h0 => absurd h0 hne2, hr, fun x hx hk => ?_, hone⟩⟩
    exact absurd hk (h.one ho [] _ rest rfl rfl rfl x hx)
   ·
    rw [if_neg ho]
    refine ⟨hci, h.u8, hr, by first | trivial | rfl, by first | trivial | rfl, fun hne2 => ⟨hci, h.u8, fun h0 => absurd h0 hne2, hr, fun x hx hk => ?_, hone⟩⟩
    obtain ⟨h1, k, hk1, hk2, -⟩ := hsto x hx hk
    refine ⟨h1, k, ?_, ?_, fun h => absurd h ho⟩
    · rw [clean_len]; exact hk1
    · rw [clean_tbl]; exact hk2
  ·
   rw [if_neg hA]
   by_cases hk : xk = 1
   ·
    rw [if_pos hk] at hroom ⊢
    have hr : (mgot ++ bs).length + 16 * lds rest ≤ 32 := by rw [List.length_append]; omega
    have hu2 : u8ok (mgot ++ bs) := fun b hb => (List.mem_append.1 hb).elim (h.u8 b) (hu b)
    exact ⟨hi, hu2, hr, rfl, rfl, fun hne2 => ⟨hi, hu2, fun h0 => absurd h0 hne2, hr, hsto, hone⟩⟩
   ·
    rw [if_neg hk] at hroom ⊢
    have hr : mgot.length + 16 * lds rest ≤ 32 := by omega
    exact ⟨hi, h.u8, hr, rfl, rfl, fun hne2 => ⟨hi, h.u8, fun h0 => absurd h0 hne2, hr, hsto, hone⟩⟩
theorem end_load_inv {m : Mc} {p : Pt} (h : MInv m p) (hne : m.todo ≠ []) {bs : List Int} (hu : u8ok bs) (hl : bs.length = 16) (to page : Int) : ((mStep m p bs).2.1.load to page (mStep m p bs).1.got).1.Inv := by
 obtain ⟨h1, h2, -⟩ := mStep_inv h hne hu hl
 exact Pt.load_inv h1 _ _ h2
theorem end_inv {m : Mc} {p : Pt} (h : MInv m p) (hne : m.todo ≠ []) (e : Int) {bs : List Int} (hu : u8ok bs) (hl : bs.length = 16) : MInv (mEnd m p e bs).1 (mEnd m p e bs).2.1 := by
 obtain ⟨h1, h2, h3, h4, h5, h6⟩ := mStep_inv h hne hu hl
 have hli := end_load_inv h hne hu hl m.to m.page
 unfold mEnd
 split
 · exact idle_inv h.inv
 ·
  split
  ·
   rename_i h0
   exact h6 (by intro he; rw [he] at h0; exact absurd h0 (by decide))
  ·
   refine idle_inv ?_
   simp only
   split
   · exact Pt.doPage_inv hli _ pin_keeps
   · exact h1
theorem data_k {m : Mc} {p : Pt} (h : MInv m p) : m.io.1 = 2 → m.io.2.2 = 0 ∨ m.io.2.2 = 1 := by
 intro h1
 cases ht : m.todo with
 | nil => unfold Mc.io at h1; rw [ht] at h1; exact absurd h1 (by decide)
 | cons x rest =>
  have hio : m.io = x := by unfold Mc.io; rw [ht]; rfl
  rw [hio] at h1 ⊢
  exact (h.sto x (by rw [ht]; exact List.mem_cons_self) h1).1
theorem got_len {m : Mc} {p : Pt} (h : MInv m p) {bs : List Int} (hl : bs.length = 16) : m.got.length + bs.length ≤ 100000 := by have := h.room; omega
end Go.Proofs.YtfpghdcjdnifcaaGreat
namespace Go.Proofs.YtfpghdcjdnifcaaGreat
open Go Go.Sl Go.IntWalk
set_option maxHeartbeats 8000000
set_option maxRecDepth 20000
theorem c6_self (c : C6) : ∀ f ∈ (Tryz.prog.fieldsOf 57).toList, SelfEq Tryz.prog c.l f := by
 have h : (Tryz.prog.fieldsOf 57).toList.map (fun f => (f.type, f.offset)) = [(55, 0), (55, 1), (55, 2), (55, 3), (55, 4), (55, 5)] := by kernel_rfl
 intro f hf
 have := List.mem_map_of_mem (f := fun f : Field => (f.type, f.offset)) hf
 rw [h] at this
 simp only [List.mem_cons, Prod.mk.injEq, List.not_mem_nil, or_false] at this
 have hi : Tryz.prog.underlying 55 = some (.int .u64) := Tryz.underlying55
 have ha : IsAgg Tryz.prog 55 false := ty_55.1
 rcases this with ⟨h1, h2⟩ | ⟨h1, h2⟩ | ⟨h1, h2⟩ | ⟨h1, h2⟩ | ⟨h1, h2⟩ | ⟨h1, h2⟩
 all_goals exact SelfEq.int (by rw [h1]; exact ha) (by rw [h1]; exact hi) (by rw [h2]; rfl)
theorem und_c6 : Tryz.prog.underlying 57 = some (.struct (Tryz.prog.fieldsOf 57)) := by kernel_rfl
theorem held_c6 : Tryz.prog.stoodInHeld 57 = false := by kernel_rfl
theorem guard_c6 : Tryz.prog.eqGuardType Tryz.prog.depth 57 = false := by kernel_rfl
theorem neC {n : Nat} {R : HL} {cx : Cx} {ρ : Env} {L : List HL} {ty t' : TypeId} {x y : Operand} (c : C6) (hx : ev? ρ x = some c.v) (hy : ev? ρ y = some c.v) :
  OpVal Tryz.prog n R cx (.binOp .neq 57 x y t') ty ρ L (.bool false) := OpVal.neSelf (l := c.l) hx hy und_c6 held_c6 guard_c6 (c6_self c)
end Go.Proofs.YtfpghdcjdnifcaaGreat
namespace Go.Sl
open Go
theorem Lf.congr {Y M L' : List HL} {w w' : World} (h : Y.flatten = M.flatten) (hl : Lf M L' w w') : Lf Y L' w w' := by
 unfold Lf at *
 rw [h]
 exact hl
theorem WD.guardGoCallQ {P : Program} {n : Nat} {R : HL} {cx : Cx} {ops : Array Oper} {K : Env → List HL → Prop} {el : List Kd} {fl : List (Nat × Obj)} {ρ : Env} {Y : List HL} {d : Nat} {c : Call} {ty : TypeId} {pos : String} {af : Array Edge} {l : List Oper} {j s : Nat} {want b : Bool} {fo : Operand} {xs : Array Operand} {tys : Array TypeId}
  {f : FuncId} {fst vs cap args : List Value} {ro : HL} {post : Value → List HL → Prop} (v0 : Value)
  (hj : (ops[j]?).bind (·.dst) = some s) (hb : ρ.get? s = some (.bool b)) (hw : b = want)
  (hc : c = ⟨.value fo, xs, tys⟩) (hfo : ev? ρ fo = some (.func (.func f) fst.toArray cap.toArray)) (hxs : evs? ρ xs.toList = some vs) (hargs : fst ++ vs ++ cap = args) (hi : P.inits.idxOf? f = none)
  (hsp : Ctr P f args [] ro post) (hv : ∀ v L', post v L' → v = v0) (hro : ∀ p ∈ ro, p ∈ R) (hd : d < n)
  (hk : WD P n R cx ops el fl l ((d, v0) :: ρ) Y K) :
  WD P n R cx ops (.b false :: el) fl (⟨some d, .call c, ty, pos, af, some (j, want)⟩ :: l) ρ Y K := by
 refine WD.guardGo hj hb hw fun E F i a h3 hf hwt => ⟨v0, .inl ⟨hwt, fun Y w hs => .inr ⟨f, args.toArray, w, ?_, hi, hsp.quiet hv hro hs⟩⟩, hk.go E F (i + 1) _ h3 (hf.put hd v0)⟩
 have hxs' := hf.evs hxs
 have hx : xs.map a.eval = vs.toArray := by cases xs; simp at hxs'; simp [hxs']
 unfold execOp
 subst hc
 have hcall := hsp.callable
 simp only [resolve, Deferred.ofValue, hf.ev hfo, hx, Sem.run_bind, Sem.run_pure, Result.andThen_ok, invoke]
 rw [show (fst.toArray ++ vs.toArray ++ cap.toArray) = args.toArray from by rw [← hargs]; simp, hcall]
end Go.Sl
namespace Go.Proofs.YtfpghdcjdnifcaaGreat
open Go Go.Sl
theorem dQg {n : Nat} {R : HL} {cx : Cx} {ρ ρ' : Env} {Y Y' : List HL} {ops : Array Oper} {K : Env → List HL → Prop} {el el' : List Kd} {fl : List (Nat × Obj)} {d : Nat} {ty : TypeId} {pos : String} {af : Array Edge} {l l' : List Oper} {v : Value} {j sl : Nat} {want bb : Bool} {ro : HL} {post : Value → List HL → Prop} {cc : Call} {fo : Operand} {xs : Array Operand} {tys : Array TypeId} {f : FuncId} {fst us cap args : List Value}
  (hj : (ops[j]?).bind (·.dst) = some sl := by exact rfl) (hb : ρ.get? sl = some (.bool bb) := by exact rfl) (hw : bb = want := by first | rfl | exact dt ‹_› | exact df ‹_› | exact ndT ‹_› | exact ndF ‹_› | (simp; done) | exact dt (by omega) | exact df (by omega) | exact ndT (by omega) | exact ndF (by omega) | omega)
  (hc : cc = ⟨.value fo, xs, tys⟩ := by exact rfl) (hfo : ev? ρ fo = some (.func (.func f) fst.toArray cap.toArray) := by exact rfl) (hxs : evs? ρ xs.toList = some us := by exact rfl) (hargs : fst ++ us ++ cap = args := by exact rfl)
  (hi : Tryz.prog.inits.idxOf? f = none := by kernel_rfl) (o : Ctr Tryz.prog f args [] ro post) (h : WD Tryz.prog n R cx ops el' fl l' ρ' Y' K) (hv : ∀ u L', post u L' → u = v := by (rintro _ _ ⟨rfl, _⟩; rfl)) (hro : ∀ p ∈ ro, p ∈ R := by first | (intro p hp; cases hp; done) | (intro p hp; simpa using hp) | (intro p hp; simp at hp ⊢; simp [hp]; done)) (hd : d < n := by exact lb rfl)
  (h1 : ddrive tab n el l ((d, v) :: ρ) = some (el', l', ρ') := by exact rfl) (h2 : norm? Y = some Y' := by exact rfl) :
  WD Tryz.prog n R cx ops (.b false :: el) fl (⟨some d, .call cc, ty, pos, af, some (j, want)⟩ :: l) ρ Y K := WD.guardGoCallQ v hj hb hw hc hfo hxs hargs hi o hv hro hd (WD.step tab_ok h1 h2 h)
theorem dAp {n : Nat} {R : HL} {cx : Cx} {ρ : Env} {Y rest : List HL} {ops : Array Oper} {K : Env → List HL → Prop} {el : List Kd} {fl : List (Nat × Obj)} {d : Nat} {ty t : TypeId} {x y : Operand} {pos : String} {af : Array Edge} {l : List Oper} {m e bytes len cap nx cxx bx ox : Nat} {cs news : List Value} {a : Option Addr} {H : HL} {lx : List Value} {ex : TypeId} {frx : Nat × Nat} (ho : Own m e cs a len cap H)
  (hk : ∀ v L', (∃ a' cap' H', v = .slice a' (len + nx) cap' ∧ L' = [H'] ∧ Own m e (cs ++ news) a' (len + nx) cap' H') → WD Tryz.prog n R cx ops el fl l ((d, v) :: ρ) (L' ++ rest) K)
  (ht : look? tab.sls t = some e := by exact rfl) (hi : look? tab.infs e = some (m, bytes) := by exact rfl) (hs : ev? ρ x = some (.slice a len cap) := by exact rfl) (hH : ∀ p ∈ H, p ∈ Y.flatten := by (intro p hp; simp [hp]))
  (hx : ev? ρ y = some (.slice (some ⟨bx, ox, none⟩) nx cxx) := by exact rfl) (hb : At R Y bx (.cells lx.toArray ex frx) := by repeat (first | exact oh | exact rh | exact rhF | apply ot | apply raF | apply rt)) (hn : seg? lx ox (nx * m) = some news := by exact rfl)
  (h1 : allOne news = true := by exact rfl) (hbig : (len + nx) * bytes ≤ 140737488355328 := by omega) (hbig2 : len + nx ≤ 140737488355328 := by omega)
  (hsel : Sel Y [H] rest := by repeat (first | exact Sel.nil | (apply Sel.cons; (repeat (first | exact Pick.here | apply Pick.there))))) (hd : d < n := by exact lb rfl) :
  WD Tryz.prog n R cx ops (.b true :: el) fl (⟨some d, .call ⟨.builtin .append, #[x, y], #[t, t]⟩, ty, pos, af, none⟩ :: l) ρ Y K :=
 WD.prim (app tab_ok ht hi hs ho hH hx hb hn h1 hbig hbig2) hsel hd hk
end Go.Proofs.YtfpghdcjdnifcaaGreat
namespace Go.Proofs.YtfpghdcjdnifcaaGreat
open Go Go.Sl Go.IntWalk
set_option maxHeartbeats 8000000
set_option maxRecDepth 20000
theorem split2 {P : Program} {n : Nat} {R : HL} {cx : Cx} {K : List Kont} {ρ : Env} {L M : List HL} {A B : HL} (h : L = (A ++ B) :: M) (hk : W P n R cx K ρ (A :: B :: M)) : W P n R cx K ρ L := by
 subst h
 exact W.regroup (by simp) hk
def ops14 : List Int := [1, 1, 1, 2, 2, 3, 3, 3, 4, 4, 5, 6, 7, 8]
def gop (x : Int) : Int := ops14.getD (around x 14).toNat 0
def gq (q : Rq) (n : Int) : Rq := ⟨gop q.op, if gop q.op ≠ 6 ∧ gop q.op ≠ 8 then around q.page n else 0, if gop q.op = 2 ∨ gop q.op = 3 then around q.off 33 else 0,
 if gop q.op = 2 then around q.len (33 - around q.off 33) else 0, if gop q.op = 3 then (fill q.data (around q.len 33).toNat).take (32 - around q.off 33).toNat else []⟩
structure Rq.Ok (q : Rq) : Prop where
 op : 1 ≤ q.op ∧ q.op ≤ 8
 page : 0 ≤ q.page
 off : i64s q.off
 len : i64s q.len
 u8 : u8ok q.data
 dl : q.data.length ≤ 1000000
theorem mEnd_data (m : Mc) (p : Pt) (e : Int) (bs : List Int) : (mEnd m p e bs).2.2.data = [] := by
 unfold mEnd
 split
 · rfl
 · split <;> rfl
end Go.Proofs.YtfpghdcjdnifcaaGreat
namespace Go.Proofs.YtfpghdcjdnifcaaGreat
open Go Go.Sl Go.IntWalk
set_option maxHeartbeats 4000000
set_option maxRecDepth 20000
set_option linter.unusedVariables false
theorem roOwn (b : Nat) (bs : List Int) (e : Nat) : RoSl 1 (u8s bs) (some ⟨b, 0, none⟩) bs.length [(b, .cells (u8s bs).toArray e (0, 0))] :=
 ⟨by rw [u8s_len, Nat.mul_one], .inr ⟨b, 0, u8s bs, e, (0, 0), rfl, rfl, by rw [u8s_len]; omega, by rw [List.drop_zero, Nat.mul_one, ← u8s_len bs, List.take_length]⟩⟩
theorem BClone_spec (bs : List Int) (hl : bs.length ≤ 1000000) (a : Option Addr) (cap : Nat) (ro : HL) (hro : RoSl 1 (u8s bs) a bs.length ro) :
  Ctr Tryz.prog 142 [.slice a bs.length cap] [] ro (fun v L' => ∃ a' cap' H, v = .slice a' bs.length cap' ∧ L' = [H] ∧ Own 1 5 (u8s bs) a' bs.length cap' H) := by
 refine Ctr.enter (n := 8) [.tmp 2] [(0, _)] Tryz.func142 rfl rfl rfl (lb rfl) Tryz.call142 ⟨rfl, trivial⟩ ?_
 intro cx fin fin0
 refine aG ?_
 refine aV (OpVal.eqNilSl tab_ok rfl rfl rfl) ?_
 cases a with
 | none =>
  have h0 : bs = [] := by
   rcases hro.2 with ⟨h, -⟩ | ⟨_, _, _, _, _, h, _⟩
   · exact List.eq_nil_of_length_eq_zero h
   · cases h
  subst h0
  refine aT ?_ (hb := by rfl)
  refine W.nilChunk ?_
  refine W.ret (fin _ _ (FinOk.first 1 (.tmp rfl .nil) rfl ?_))
  exact ⟨_, _, _, rfl, rfl, Own.nil 1 _⟩
 | some ad =>
  refine aF ?_ (hb := by rfl)
  refine aSl (ps := []) ?_
  intro b5
  refine aG ?_
  have how : Own 1 5 (u8s []) (some ⟨b5, 0, none⟩) ([] : List Int).length 0 [(b5, .cells #[] 5 (0, 0))] := ⟨rfl, .inr ⟨b5, [], rfl, rfl, Nat.le_refl _, rfl, rfl⟩⟩
  refine aPr (appU8 tab_ok rfl rfl rfl how (by intro p hp; simp [hp]) rfl hro (fun q hq => .inr hq) (by simp; omega) (by simp; omega)) ?_
  rintro _ _ ⟨a2, c2, H2, rfl, rfl, ho⟩
  refine aG ?_
  rw [List.nil_append] at ho
  repeat refine gx ?_
  refine W.ret (fin _ _ (FinOk.first 1 (.tmp rfl .nil) rfl ?_))
  exact ⟨_, _, _, rfl, rfl, ho⟩
theorem BEqual_spec (x y : List Int) (hx : u8ok x) (hy : u8ok y) (a : Option Addr) (cap : Nat) (r1 : HL) (h1 : RoSl 1 (u8s x) a x.length r1) (b : Option Addr) (cb : Nat) (r2 : HL) (h2 : RoSl 1 (u8s y) b y.length r2) :
  Ctr Tryz.prog 257 [.slice a x.length cap, .slice b y.length cb] [] (r1 ++ r2) (fun v L' => v = .bool (decide (x = y)) ∧ L' = []) := by
 refine Ctr.enter (n := 10) [.tmp 4] [(0, _), (1, _)] Tryz.func257 rfl rfl rfl (lb rfl) Tryz.call257 ⟨rfl, rfl, trivial⟩ ?_
 intro cx fin fin0
 refine aG ?_
 refine aV (OpVal.bytesStr tab_ok rfl rfl rfl rfl h1 (fun q hq => .inr (by simp [hq]))) ?_
 refine aV (OpVal.bytesStr tab_ok rfl rfl rfl rfl h2 (fun q hq => .inr (by simp [hq]))) ?_
 refine aV (OpVal.eqStr rfl rfl) ?_
 rw [bstr_eq hx hy]
 refine W.ret (fin _ _ (FinOk.first 0 (.tmp rfl .nil) rfl ?_))
 exact ⟨rfl, rfl⟩
end Go.Proofs.YtfpghdcjdnifcaaGreat
namespace Go.Proofs.YtfpghdcjdnifcaaGreat
open Go Go.Sl Go.IntWalk
set_option maxHeartbeats 8000000
set_option maxRecDepth 20000
set_option linter.unusedVariables false
def rnamed (q : Rq) : Rq :=
 if q.op = 1 ∨ q.op = 4 ∨ q.op = 5 ∨ q.op = 7 then ⟨q.op, q.page, 0, 0, []⟩ else if q.op = 2 then ⟨q.op, q.page, q.off, q.len, []⟩ else if q.op = 3 then ⟨q.op, q.page, q.off, 0, q.data⟩ else ⟨q.op, 0, 0, 0, []⟩
def rcheck (q : Rq) (pages : Int) : Int :=
 if ¬ (1 ≤ q.op ∧ q.op ≤ 8) ∨ q ≠ rnamed q then 2 else if q.op ≠ 6 ∧ q.op ≠ 8 ∧ (q.page < 0 ∨ pages ≤ q.page) then 4
 else if q.off < 0 ∨ 32 < q.off ∨ q.len < 0 ∨ 32 - q.off < q.len ∨ 32 - q.off < (q.data.length : Int) then 4 else 0
def rnames : List ByteArray := [⟨#[]⟩, ⟨#[102, 101, 116, 99, 104]⟩, ⟨#[114, 101, 97, 100]⟩, ⟨#[119, 114, 105, 116, 101]⟩, ⟨#[117, 110, 112, 105, 110]⟩, ⟨#[102, 108, 117, 115, 104]⟩, ⟨#[102, 108, 117, 115, 104, 97, 108, 108]⟩, ⟨#[100, 105, 115, 99, 97, 114, 100]⟩, ⟨#[115, 116, 97, 116, 115]⟩]
theorem RName_no (k : Int) (h : k < 0 ∨ 9 ≤ k) : Ctr Tryz.prog 223 [.int .i64 k] [] [] (fun v L' => v = .string ⟨#[]⟩ ∧ L' = []) := by
 refine Ctr.enter (n := 12) [.tmp 2] [(0, _)] Tryz.func223 rfl rfl rfl (lb rfl) Tryz.call223 ⟨rfl, trivial⟩ ?_
 intro cx fin fin0
 refine aG ?_
 rcases Classical.em (k < 0) with h1 | h1
 ·
  repeat refine gh h1 ?_
  refine W.ret (fin _ _ (FinOk.first 0 (.tmp rfl .nil) rfl ?_))
  exact ⟨rfl, rfl⟩
 ·
  have h2 : k ≥ 9 := by omega
  repeat refine gh (gc2 h1 h2) ?_
  refine W.ret (fin _ _ (FinOk.first 0 (.tmp rfl .nil) rfl ?_))
  exact ⟨rfl, rfl⟩
theorem Names_spec : Ctr Tryz.prog 256 [] [] [] (fun v L' => v = .agg (rnames.map Value.string).toArray ∧ L' = []) := by
 refine Ctr.enter (n := 2) [.cell 0 376] [] Tryz.func256 rfl rfl rfl (lb rfl) Tryz.call256 trivial ?_
 intro cx fin fin0
 refine aG ?_
 repeat (first | refine gx ?_ | refine gN fun _ => ?_ | refine gB fun _ => ?_ | fail)
 refine aBu (ps := [_, _, _, _, _, _, _, _, _]) ?_
 repeat refine gx ?_
 refine W.ret (fin _ _ (FinOk.first 0 (aRc .nil) rfl ?_))
 exact ⟨rfl, rfl⟩
theorem RName_spec (j : Nat) (h : j < 9) : Ctr Tryz.prog 223 [.int .i64 (j : Int)] [] [] (fun v L' => v = .string (rnames.getD j ⟨#[]⟩) ∧ L' = []) := by
 have h1 : ¬ ((j : Int) < 0) := by omega
 have h2 : ¬ ((j : Int) ≥ 9) := by omega
 have hk : j = 0 ∨ j = 1 ∨ j = 2 ∨ j = 3 ∨ j = 4 ∨ j = 5 ∨ j = 6 ∨ j = 7 ∨ j = 8 := by omega
 refine Ctr.enter (n := 12) [.tmp 2] [(0, _)] Tryz.func223 rfl rfl rfl (lb rfl) Tryz.call223 ⟨rfl, trivial⟩ ?_
 intro cx fin fin0
 refine aG ?_
 repeat refine gh (gc2 h1 h2) ?_
 refine aC (o := Names_spec) (h := ?_)
 rintro _ _ ⟨rfl, rfl⟩
 refine aG ?_
 rcases hk with rfl | rfl | rfl | rfl | rfl | rfl | rfl | rfl | rfl
 all_goals
  refine aV (OpVal.ix1 tab_ok rfl rfl rfl rfl rfl (by decide) rfl) ?_
  refine W.ret (fin _ _ (FinOk.first 0 (.tmp rfl .nil) rfl ?_))
  exact ⟨rfl, rfl⟩
theorem Same_spec (a b : Rq) (hua : u8ok a.data) (hub : u8ok b.data) (aa : Option Addr) (ca : Nat) (ra : HL) (hra : RoSl 1 (u8s a.data) aa a.data.length ra) (ab : Option Addr) (cb : Nat) (rb : HL) (hrb : RoSl 1 (u8s b.data) ab b.data.length rb) :
  Ctr Tryz.prog 224 [a.v aa ca, b.v ab cb] [] (ra ++ rb) (fun v L' => v = .bool (decide (a = b)) ∧ L' = []) := by
 have hE := BEqual_spec a.data b.data hua hub aa ca ra hra ab cb rb hrb
 obtain ⟨o1, p1, f1, l1, d1⟩ := a
 obtain ⟨o2, p2, f2, l2, d2⟩ := b
 simp only at *
 refine Ctr.enter (n := 38) [.tmp 4] [(0, _), (1, _)] Tryz.func224 rfl rfl rfl (lb rfl) Tryz.call224 ⟨rfl, rfl, trivial⟩ ?_
 intro cx fin fin0
 refine aG ?_
 rcases Classical.em (o1 = o2) with h1 | h1
 ·
  rcases Classical.em (p1 = p2) with h2 | h2
  ·
   rcases Classical.em (f1 = f2) with h3 | h3
   ·
    rcases Classical.em (l1 = l2) with h4 | h4
    ·
     subst h1 h2 h3 h4
     repeat (first | refine gx ?_ | refine gN fun _ => ?_ | refine gB fun _ => ?_ | fail)
     refine aC (o := hE) (h := ?_) (hro := RoIn.same)
     rintro _ _ ⟨rfl, rfl⟩
     refine aG ?_
     repeat refine gx ?_
     refine W.ret (fin _ _ (FinOk.first 0 (.tmp rfl .nil) rfl ?_))
     exact ⟨by simp [pack], rfl⟩
    ·
     repeat (first | refine gh (gc4 h1 h2 h3 h4) ?_ | refine gN fun _ => ?_ | refine gB fun _ => ?_ | fail)
     refine W.ret (fin _ _ (FinOk.first 0 (.tmp rfl .nil) rfl ?_))
     exact ⟨by simp [pack, h4], rfl⟩
   ·
    repeat (first | refine gh (gc3 h1 h2 h3) ?_ | refine gN fun _ => ?_ | refine gB fun _ => ?_ | fail)
    refine W.ret (fin _ _ (FinOk.first 0 (.tmp rfl .nil) rfl ?_))
    exact ⟨by simp [pack, h3], rfl⟩
  ·
   repeat (first | refine gh (gc2 h1 h2) ?_ | refine gN fun _ => ?_ | refine gB fun _ => ?_ | fail)
   refine W.ret (fin _ _ (FinOk.first 0 (.tmp rfl .nil) rfl ?_))
   exact ⟨by simp [pack, h2], rfl⟩
 ·
  repeat (first | refine gh h1 ?_ | refine gN fun _ => ?_ | refine gB fun _ => ?_ | fail)
  refine W.ret (fin _ _ (FinOk.first 0 (.tmp rfl .nil) rfl ?_))
  exact ⟨by simp [pack, h1], rfl⟩
theorem RClone_spec (q : Rq) (hl : q.data.length ≤ 1000000) (a : Option Addr) (c : Nat) (ro : HL) (hro : RoSl 1 (u8s q.data) a q.data.length ro) :
  Ctr Tryz.prog 168 [q.v a c] [] ro (fun v L' => ∃ a' c' H, v = q.v a' c' ∧ L' = [H] ∧ RoSl 1 (u8s q.data) a' q.data.length H) := by
 have hC := BClone_spec q.data hl a c ro hro
 obtain ⟨o1, p1, f1, l1, d1⟩ := q
 simp only at *
 refine Ctr.enter (n := 8) [.cell 2 63] [(0, _)] Tryz.func168 rfl rfl rfl (lb rfl) Tryz.call168 ⟨rfl, trivial⟩ ?_
 intro cx fin fin0
 refine aG ?_
 repeat (first | refine gx ?_ | refine gN fun _ => ?_ | refine gB fun _ => ?_ | fail)
 refine aC (o := hC) (h := ?_) (hro := RoIn.same)
 rintro _ _ ⟨a2, c2, H, rfl, rfl, ho⟩
 refine aG ?_
 repeat refine gx ?_
 refine W.ret (fin _ _ (FinOk.first 1 (aRc .nil) rfl ?_))
 exact ⟨a2, c2, _, rfl, rfl, Own.roSl ho⟩
theorem Nm1_spec (q : Rq) (a : Option Addr) (c : Nat) : Ctr Tryz.prog 258 [q.v a c] [] [] (fun v L' => v = (⟨q.op, q.page, 0, 0, []⟩ : Rq).v none 0 ∧ L' = []) := by
 obtain ⟨o1, p1, f1, l1, d1⟩ := q
 refine Ctr.enter (n := 8) [.cell 2 63] [(0, _)] Tryz.func258 rfl rfl rfl (lb rfl) Tryz.call258 ⟨rfl, trivial⟩ ?_
 intro cx fin fin0
 refine aG ?_
 repeat (first | refine gx ?_ | refine gN fun _ => ?_ | refine gB fun _ => ?_ | fail)
 refine aBu (ps := [_, _]) ?_
 repeat refine gx ?_
 refine W.ret (fin _ _ (FinOk.first 0 (aRc .nil) rfl ?_))
 exact ⟨rfl, rfl⟩
theorem Nm2_spec (q : Rq) (a : Option Addr) (c : Nat) : Ctr Tryz.prog 259 [q.v a c] [] [] (fun v L' => v = (⟨q.op, 0, 0, 0, []⟩ : Rq).v none 0 ∧ L' = []) := by
 obtain ⟨o1, p1, f1, l1, d1⟩ := q
 refine Ctr.enter (n := 6) [.cell 2 63] [(0, _)] Tryz.func259 rfl rfl rfl (lb rfl) Tryz.call259 ⟨rfl, trivial⟩ ?_
 intro cx fin fin0
 refine aG ?_
 repeat (first | refine gx ?_ | refine gN fun _ => ?_ | refine gB fun _ => ?_ | fail)
 refine aBu (ps := [_]) ?_
 repeat refine gx ?_
 refine W.ret (fin _ _ (FinOk.first 0 (aRc .nil) rfl ?_))
 exact ⟨rfl, rfl⟩
theorem Nm3_spec (q : Rq) (a : Option Addr) (c : Nat) : Ctr Tryz.prog 260 [q.v a c] [] [] (fun v L' => v = (⟨q.op, q.page, q.off, q.len, []⟩ : Rq).v none 0 ∧ L' = []) := by
 obtain ⟨o1, p1, f1, l1, d1⟩ := q
 refine Ctr.enter (n := 12) [.cell 2 63] [(0, _)] Tryz.func260 rfl rfl rfl (lb rfl) Tryz.call260 ⟨rfl, trivial⟩ ?_
 intro cx fin fin0
 refine aG ?_
 repeat (first | refine gx ?_ | refine gN fun _ => ?_ | refine gB fun _ => ?_ | fail)
 refine aBu (ps := [_, _, _, _]) ?_
 repeat refine gx ?_
 refine W.ret (fin _ _ (FinOk.first 0 (aRc .nil) rfl ?_))
 exact ⟨rfl, rfl⟩
theorem Nm4_spec (q : Rq) (a : Option Addr) (c : Nat) : Ctr Tryz.prog 261 [q.v a c] [] [] (fun v L' => v = (⟨q.op, q.page, q.off, 0, q.data⟩ : Rq).v a c ∧ L' = []) := by
 obtain ⟨o1, p1, f1, l1, d1⟩ := q
 refine Ctr.enter (n := 12) [.cell 2 63] [(0, _)] Tryz.func261 rfl rfl rfl (lb rfl) Tryz.call261 ⟨rfl, trivial⟩ ?_
 intro cx fin fin0
 refine aG ?_
 repeat (first | refine gx ?_ | refine gN fun _ => ?_ | refine gB fun _ => ?_ | fail)
 refine aBu (ps := [_, _, _, _]) ?_
 repeat refine gx ?_
 refine W.ret (fin _ _ (FinOk.first 0 (aRc .nil) rfl ?_))
 exact ⟨rfl, rfl⟩
def fns (f : Nat) : Value := .func (.func f) #[] #[]
theorem Nmd_spec : Ctr Tryz.prog 225 [] [] [] (fun v L' => v = .agg #[fns 259, fns 258, fns 260, fns 261, fns 258, fns 258, fns 259, fns 258, fns 259] ∧ L' = []) := by
 refine Ctr.enter (n := 15) [.cell 0 344] [] Tryz.func225 rfl rfl rfl (lb rfl) Tryz.call225 trivial ?_
 intro cx fin fin0
 refine aG ?_
 repeat (first | refine gx ?_ | refine gN fun _ => ?_ | refine gB fun _ => ?_ | fail)
 refine aBu (ps := [_, _, _, _, _, _, _, _, _]) ?_
 repeat refine gx ?_
 refine W.ret (fin _ _ (FinOk.first 0 (aRc .nil) rfl ?_))
 exact ⟨rfl, rfl⟩
def fnl : List Value := [fns 259, fns 258, fns 260, fns 261, fns 258, fns 258, fns 259, fns 258, fns 259]
theorem Check_go (j f : Nat) (hj1 : 1 ≤ j) (hj8 : j ≤ 8) (hf : fnl[j]? = some (fns f)) (hfi : Tryz.prog.inits.idxOf? f = none) (hnn : ((rnames.getD j ⟨#[]⟩).toList == (⟨#[]⟩ : ByteArray).toList) = false) (q q' : Rq) (hq : q.op = (j : Int)) (hq' : rnamed q = q') (hl : q.data.length ≤ 1000000) (pages : Int) (a : Option Addr) (c : Nat) (a' : Option Addr) (c' : Nat) (ro : HL) (hoi : i64s q.off)
  (hC : Ctr Tryz.prog f [q.v a c] [] [] (fun v L' => v = q'.v a' c' ∧ L' = [])) (hS : Ctr Tryz.prog 224 [q.v a c, q'.v a' c'] [] ro (fun v L' => v = .bool (decide (q = q')) ∧ L' = [])) :
  Ctr Tryz.prog 166 [q.v a c, .int .i64 pages] [] ro (fun v L' => v = .int .i64 (rcheck q pages) ∧ L' = []) := by
 have hN := RName_spec j (by omega)
 have hM := Nmd_spec
 have hrc : rcheck q pages = rcheck q pages := rfl
 conv at hrc => rhs; unfold rcheck
 rw [hq'] at hrc
 have hop : ¬ ¬ (1 ≤ q.op ∧ q.op ≤ 8) := by omega
 generalize rcheck q pages = out at *
 obtain ⟨o1, p1, f1, l1, d1⟩ := q
 simp only at *
 subst hq
 rw [show (⟨(j : Int), p1, f1, l1, d1⟩ : Rq).v a c = .agg #[.int .i64 (j : Int), .int .i64 p1, .int .i64 f1, .int .i64 l1, .slice a d1.length c] from rfl]
 refine Ctr.enter (n := 69) [.tmp 4] [(0, _), (1, _)] Tryz.func166 rfl rfl rfl (lb rfl) Tryz.call166 ⟨rfl, rfl, trivial⟩ ?_
 intro cx fin fin0
 refine aG ?_
 repeat (first | refine gx ?_ | refine gN fun _ => ?_ | refine gB fun _ => ?_ | fail)
 refine W.draw follows (by decide +kernel) (zG ?_)
 refine gzx ?_
 refine zC (o := hN) (h := ?_)
 refine zV (OpVal.eqStr rfl rfl) ?_
 refine gzh hnn ?_
 refine zC (o := hM) (h := ?_)
 refine gzh hnn ?_
 refine zV (OpVal.ix1 (l := fnl) tab_ok rfl rfl rfl rfl rfl (show j < 9 by omega) hf) ?_
 refine gzh hnn ?_
 refine zC (o := hC) (h := ?_) (hro := RoIn.nil)
 refine gzh hnn ?_
 refine zC (o := hS) (h := ?_) (hro := RoIn.same)
 refine gzh hnn ?_
 refine WZ.nil (aG ?_)
 rcases Classical.em ((⟨(j : Int), p1, f1, l1, d1⟩ : Rq) = q') with hs | hs
 case' inr =>
  rw [if_pos (.inr hs)] at hrc
  subst hrc
  repeat refine gh hs ?_
  refine W.ret (fin _ _ (FinOk.first 0 (.tmp rfl .nil) rfl ?_))
  exact ⟨rfl, rfl⟩
 rw [if_neg (by simp [hs]; omega)] at hrc
 repeat refine gh hs ?_
 rcases (show (¬ (j : Int) = 6 ∧ ¬ (j : Int) = 8 ∧ p1 < 0) ∨ (¬ (j : Int) = 6 ∧ ¬ (j : Int) = 8 ∧ ¬ p1 < 0 ∧ p1 ≥ pages) ∨ ((j : Int) = 6) ∨ (¬ (j : Int) = 6 ∧ (j : Int) = 8) ∨ (¬ (j : Int) = 6 ∧ ¬ (j : Int) = 8 ∧ ¬ p1 < 0 ∧ ¬ p1 ≥ pages) by omega) with ⟨h1, h2, h3⟩ | ⟨h1, h2, h3, h4⟩ | h1 | ⟨h1, h2⟩ | ⟨h1, h2, h3, h4⟩
 case' inl.inl =>
  rw [if_pos ⟨h1, h2, .inl h3⟩] at hrc
  subst hrc
  repeat refine gh (gc3 h1 h2 h3) ?_
  refine W.ret (fin _ _ (FinOk.first 0 (.tmp rfl .nil) rfl ?_))
  exact ⟨rfl, rfl⟩
 case' inl.inr.inl =>
  rw [if_pos ⟨h1, h2, .inr h4⟩] at hrc
  subst hrc
  repeat refine gh (gc4 h1 h2 h3 h4) ?_
  refine W.ret (fin _ _ (FinOk.first 0 (.tmp rfl .nil) rfl ?_))
  exact ⟨rfl, rfl⟩
 case' inl.inr.inr.inl =>
  repeat refine gh h1 ?_
 case' inl.inr.inr.inr.inl =>
  repeat refine gh (gc2 h1 h2) ?_
 case' inl.inr.inr.inr.inr =>
  repeat refine gh (gc4 h1 h2 h3 h4) ?_
 all_goals
  rw [if_neg (by omega)] at hrc
  unfold i64s at hoi
  rcases (show f1 < 0 ∨ (¬ f1 < 0 ∧ f1 > 32) ∨ (¬ f1 < 0 ∧ ¬ f1 > 32 ∧ l1 < 0) ∨ (¬ f1 < 0 ∧ ¬ f1 > 32 ∧ ¬ l1 < 0 ∧ l1 > 32 - f1) ∨ (¬ f1 < 0 ∧ ¬ f1 > 32 ∧ ¬ l1 < 0 ∧ ¬ l1 > 32 - f1 ∧ (d1.length : Int) > 32 - f1) ∨ (¬ f1 < 0 ∧ ¬ f1 > 32 ∧ ¬ l1 < 0 ∧ ¬ l1 > 32 - f1 ∧ ¬ (d1.length : Int) > 32 - f1) by omega) with k1 | ⟨k1, k2⟩ | ⟨k1, k2, k3⟩ | ⟨k1, k2, k3, k4⟩ | ⟨k1, k2, k3, k4, k5⟩ | ⟨k1, k2, k3, k4, k5⟩
  ·
   rw [if_pos (by omega)] at hrc
   subst hrc
   repeat refine gh k1 ?_
   refine W.ret (fin _ _ (FinOk.first 0 (.tmp rfl .nil) rfl ?_))
   exact ⟨rfl, rfl⟩
  ·
   rw [if_pos (by omega)] at hrc
   subst hrc
   repeat refine gh (gc2 k1 k2) ?_
   refine W.ret (fin _ _ (FinOk.first 0 (.tmp rfl .nil) rfl ?_))
   exact ⟨rfl, rfl⟩
  ·
   rw [if_pos (by omega)] at hrc
   subst hrc
   repeat refine gh (gc3 k1 k2 k3) ?_
   refine W.ret (fin _ _ (FinOk.first 0 (.tmp rfl .nil) rfl ?_))
   exact ⟨rfl, rfl⟩
  ·
   rw [if_pos (by omega)] at hrc
   subst hrc
   repeat refine gh (gc4 k1 k2 k3 k4) ?_
   refine W.ret (fin _ _ (FinOk.first 0 (.tmp rfl .nil) rfl ?_))
   exact ⟨rfl, rfl⟩
  ·
   rw [if_pos (by omega)] at hrc
   subst hrc
   repeat refine gh (gc5 k1 k2 k3 k4 k5) ?_
   refine W.ret (fin _ _ (FinOk.first 0 (.tmp rfl .nil) rfl ?_))
   exact ⟨rfl, rfl⟩
  ·
   rw [if_neg (by omega)] at hrc
   subst hrc
   repeat refine gh (gc5 k1 k2 k3 k4 k5) ?_
   refine W.ret (fin _ _ (FinOk.first 0 (.tmp rfl .nil) rfl ?_))
   exact ⟨rfl, rfl⟩
theorem Check_no (q : Rq) (pages : Int) (h : q.op < 1 ∨ 8 < q.op) (hi : i64s q.op) (a : Option Addr) (c : Nat) : Ctr Tryz.prog 166 [q.v a c, .int .i64 pages] [] [] (fun v L' => v = .int .i64 (rcheck q pages) ∧ L' = []) := by
 have hrc : rcheck q pages = 2 := by unfold rcheck; rw [if_pos (.inl (by omega))]
 rw [hrc]
 have hN : Ctr Tryz.prog 223 [.int .i64 q.op] [] [] (fun v L' => v = .string ⟨#[]⟩ ∧ L' = []) := by
  rcases Classical.em (q.op = 0) with h0 | h0
  · rw [h0]; exact RName_spec 0 (by decide)
  · exact RName_no q.op (by omega)
 have hnn : ((⟨#[]⟩ : ByteArray).toList == (⟨#[]⟩ : ByteArray).toList) = true := by decide +kernel
 obtain ⟨o1, p1, f1, l1, d1⟩ := q
 simp only at *
 refine Ctr.enter (n := 69) [.tmp 4] [(0, _), (1, _)] Tryz.func166 rfl rfl rfl (lb rfl) Tryz.call166 ⟨rfl, rfl, trivial⟩ ?_
 intro cx fin fin0
 refine aG ?_
 repeat (first | refine gx ?_ | refine gN fun _ => ?_ | refine gB fun _ => ?_ | fail)
 refine W.draw follows (by decide +kernel) (zG ?_)
 refine gzx ?_
 refine zC (o := hN) (h := ?_)
 refine zV (OpVal.eqStr rfl rfl) ?_
 refine gzh hnn ?_
 refine WZ.nil (aG ?_)
 repeat refine gh hnn ?_
 refine W.ret (fin _ _ (FinOk.first 0 (.tmp rfl .nil) rfl ?_))
 exact ⟨rfl, rfl⟩
theorem Check_spec (q : Rq) (pages : Int) (hu : u8ok q.data) (hl : q.data.length ≤ 1000000) (a : Option Addr) (c : Nat) (ro : HL) (hro : RoSl 1 (u8s q.data) a q.data.length ro) (hoi : i64s q.off) (hi : i64s q.op) :
  Ctr Tryz.prog 166 [q.v a c, .int .i64 pages] [] ro (fun v L' => v = .int .i64 (rcheck q pages) ∧ L' = []) := by
 have e0 : RoSl 1 (u8s []) none ([] : List Int).length [] := ⟨rfl, .inl ⟨rfl, rfl⟩⟩
 have u0 : u8ok [] := fun b hb => by cases hb
 have nil : ∀ {q' : Rq} {a' c'}, Ctr Tryz.prog 224 [q.v a c, q'.v a' c'] [] (ro ++ []) (fun v L' => v = .bool (decide (q = q')) ∧ L' = []) → Ctr Tryz.prog 224 [q.v a c, q'.v a' c'] [] ro (fun v L' => v = .bool (decide (q = q')) ∧ L' = []) := fun h => h.ro (by simp)
 have dbl : ∀ {q' : Rq} {a' c'}, Ctr Tryz.prog 224 [q.v a c, q'.v a' c'] [] (ro ++ ro) (fun v L' => v = .bool (decide (q = q')) ∧ L' = []) → Ctr Tryz.prog 224 [q.v a c, q'.v a' c'] [] ro (fun v L' => v = .bool (decide (q = q')) ∧ L' = []) := fun h => h.ro (by simp)
 rcases Classical.em (1 ≤ q.op ∧ q.op ≤ 8) with hop | hop
 case inr => exact (Check_no q pages (by omega) hi a c).ro (fun _ h => by cases h)
 have hS1 := nil (Same_spec q (⟨q.op, q.page, 0, 0, []⟩ : Rq) hu u0 a c ro hro none 0 [] e0)
 have hS2 := nil (Same_spec q (⟨q.op, 0, 0, 0, []⟩ : Rq) hu u0 a c ro hro none 0 [] e0)
 have hS3 := nil (Same_spec q (⟨q.op, q.page, q.off, q.len, []⟩ : Rq) hu u0 a c ro hro none 0 [] e0)
 have hS4 := dbl (Same_spec q (⟨q.op, q.page, q.off, 0, q.data⟩ : Rq) hu hu a c ro hro a c ro hro)
 have hk : q.op = ((1 : Nat) : Int) ∨ q.op = ((2 : Nat) : Int) ∨ q.op = ((3 : Nat) : Int) ∨ q.op = ((4 : Nat) : Int) ∨ q.op = ((5 : Nat) : Int) ∨ q.op = ((6 : Nat) : Int) ∨ q.op = ((7 : Nat) : Int) ∨ q.op = ((8 : Nat) : Int) := by omega
 rcases hk with h | h | h | h | h | h | h | h
 · exact Check_go 1 _ (by decide) (by decide) rfl (by kernel_rfl) (by decide +kernel) q _ h (by unfold rnamed; rw [h]; rfl) hl pages a c _ _ ro hoi (Nm1_spec q a c) hS1
 · exact Check_go 2 _ (by decide) (by decide) rfl (by kernel_rfl) (by decide +kernel) q _ h (by unfold rnamed; rw [h]; rfl) hl pages a c _ _ ro hoi (Nm3_spec q a c) hS3
 · exact Check_go 3 _ (by decide) (by decide) rfl (by kernel_rfl) (by decide +kernel) q _ h (by unfold rnamed; rw [h]; rfl) hl pages a c _ _ ro hoi (Nm4_spec q a c) hS4
 · exact Check_go 4 _ (by decide) (by decide) rfl (by kernel_rfl) (by decide +kernel) q _ h (by unfold rnamed; rw [h]; rfl) hl pages a c _ _ ro hoi (Nm1_spec q a c) hS1
 · exact Check_go 5 _ (by decide) (by decide) rfl (by kernel_rfl) (by decide +kernel) q _ h (by unfold rnamed; rw [h]; rfl) hl pages a c _ _ ro hoi (Nm1_spec q a c) hS1
 · exact Check_go 6 _ (by decide) (by decide) rfl (by kernel_rfl) (by decide +kernel) q _ h (by unfold rnamed; rw [h]; rfl) hl pages a c _ _ ro hoi (Nm2_spec q a c) hS2
 · exact Check_go 7 _ (by decide) (by decide) rfl (by kernel_rfl) (by decide +kernel) q _ h (by unfold rnamed; rw [h]; rfl) hl pages a c _ _ ro hoi (Nm1_spec q a c) hS1
 · exact Check_go 8 _ (by decide) (by decide) rfl (by kernel_rfl) (by decide +kernel) q _ h (by unfold rnamed; rw [h]; rfl) hl pages a c _ _ ro hoi (Nm2_spec q a c) hS2
end Go.Proofs.YtfpghdcjdnifcaaGreat
namespace Go.Proofs.YtfpghdcjdnifcaaGreat
open Go Go.Sl Go.IntWalk
set_option maxHeartbeats 2000000
set_option maxRecDepth 20000
set_option linter.unusedVariables false
theorem Get_spec (c : C6) (k : Int) : Ctr Tryz.prog 287 [c.v, .int .i64 k] [] [] (fun v L' => v = .tuple #[.int .u64 (c.get k).1, .bool (c.get k).2] ∧ L' = []) := by
 refine Ctr.enter (n := 14) [.tmp 4, .tmp 5] [(0, _), (1, _)] Tryz.func287 rfl rfl rfl (lb rfl) Tryz.call287 ⟨rfl, rfl, trivial⟩ ?_
 intro cx fin fin0
 refine aG ?_
 repeat (first | refine gw ?_ | refine gN fun _ => ?_ | refine gB fun _ => ?_ | fail)
 by_cases hk : 0 ≤ k ∧ k < 6
 ·
  rcases kinds hk with rfl | rfl | rfl | rfl | rfl | rfl
  all_goals
   refine aC (o := of_yes _ _ (by omega)) (h := ?_)
   rintro _ _ ⟨rfl, rfl⟩
   refine aG ?_
   refine aV (OpVal.eqNil tab_ok rfl rfl rfl) ?_
   refine aF ?_
   repeat refine gw ?_
   refine W.ret (fin _ _ (FinOk.mk' ([]) (.tmp rfl (.tmp rfl .nil)) (by repeat (first | exact Sel.nil | (apply Sel.cons; (repeat (first | exact Pick.here | apply Pick.there))))) rfl ?_))
   exact ⟨rfl, rfl⟩
 ·
  refine aC (o := of_no _ _ hk) (h := ?_)
  rintro _ _ ⟨rfl, rfl⟩
  refine aG ?_
  refine aV (OpVal.eqNil tab_ok rfl rfl rfl) ?_
  refine aT ?_
  refine W.ret (fin _ _ (FinOk.mk' ([]) (.tmp rfl (.tmp rfl .nil)) (by repeat (first | exact Sel.nil | (apply Sel.cons; (repeat (first | exact Pick.here | apply Pick.there))))) rfl ?_))
  refine ⟨?_, rfl⟩
  unfold C6.get
  repeat rw [if_neg (by omega)]
  rfl
def C6.plus (a c : C6) (j : Nat) : C6 := (List.range j).foldl (fun a (i : Nat) => a.add (i : Int) (c.get (i : Int)).1) a
def sumTo (acc : C6) (xs : List C6) : C6 := xs.foldl (fun a c => a.plus c 6) acc
def sumC (xs : List C6) : C6 := sumTo ⟨0, 0, 0, 0, 0, 0⟩ xs
theorem C6.plus_succ (a c : C6) (j : Nat) : a.plus c (j + 1) = (a.plus c j).add (j : Int) (c.get (j : Int)).1 := by
 unfold C6.plus
 rw [List.range_succ, List.foldl_append]
 rfl
theorem C6.plus_ok {a c : C6} (ha : a.Ok) (hc : c.Ok) (j : Nat) : (a.plus c j).Ok := by
 induction j with
 | zero => exact ha
 | succ j ih => rw [C6.plus_succ]; exact C6.add_ok ih _ (C6.get_u64 hc _)
theorem C6.l_len (c : C6) : c.l.length = 6 := rfl
theorem sumC_take (xs : List C6) (i : Nat) (hi : i < xs.length) : sumC (xs.take (i + 1)) = (sumC (xs.take i)).plus xs[i] 6 := by
 unfold sumC sumTo
 rw [List.take_add_one, List.foldl_append]
 simp [hi]
theorem zero_ok : (⟨0, 0, 0, 0, 0, 0⟩ : C6).Ok := ⟨⟨by decide, by decide⟩, ⟨by decide, by decide⟩, ⟨by decide, by decide⟩, ⟨by decide, by decide⟩, ⟨by decide, by decide⟩, ⟨by decide, by decide⟩⟩
theorem sumC_ok {xs : List C6} (h : ∀ c ∈ xs, c.Ok) : (sumC xs).Ok := by
 unfold sumC
 have : ∀ (xs : List C6) (acc : C6), acc.Ok → (∀ c ∈ xs, c.Ok) → (sumTo acc xs).Ok := by
  intro xs
  induction xs with
  | nil => intro acc ha _; exact ha
  | cons x xs ih => intro acc ha h; exact ih _ (C6.plus_ok ha (h x (by simp)) 6) (fun c hc => h c (by simp [hc]))
 exact this xs _ zero_ok h
theorem Sum_spec (xs : List C6) (hx : ∀ c ∈ xs, c.Ok) (hlen : xs.length ≤ 1000) (a : Option Addr) (cap : Nat) (ro : HL) (hro : RoSl 6 (xs.flatMap C6.l) a xs.length ro) :
  Ctr Tryz.prog 262 [.slice a xs.length cap] [] ro (fun v L' => v = (sumC xs).v ∧ L' = []) := by
 refine Ctr.enter (n := 31) [.cell 2 57] [(0, _)] Tryz.func262 rfl rfl rfl (lb rfl) Tryz.call262 ⟨rfl, trivial⟩ ?_
 intro cx fin fin0
 refine aG ?_
 refine W.new tab_ok rfl rfl (by decide) ?_
 intro b2
 refine aG ?_
 refine W.new tab_ok rfl rfl (by decide) ?_
 intro b3
 refine aG ?_
 refine aLp (fun m ρ1 L1 => ∃ (i : Nat) (acc : C6), i ≤ xs.length ∧ acc = sumC (xs.take i) ∧ m = xs.length - i ∧ ρ1 = [(9, .slice a xs.length cap), (10, .int .i64 (xs.length : Int)), (11, .int .i64 (i : Int)), (2, .pointer (some ⟨b2, 0, none⟩)), (3, .pointer (some ⟨b3, 0, none⟩))] ∧ L1 = [[(b3, .cells acc.l.toArray 57 (0, 0))], [(b2, .cells (⟨0, 0, 0, 0, 0, 0⟩ : C6).l.toArray 57 (0, 0))]]) (o := ⟨0, ⟨0, 0, 0, 0, 0, 0⟩, Nat.zero_le _, rfl, rfl, rfl, rfl⟩) (h := ?_)
 rintro m ρ1 L1 ⟨i, acc, hi, hacce, rfl, rfl, rfl⟩
 refine aG ?_
 by_cases hlt : i < xs.length
 ·
  refine aT ?_ (hb := by simp; omega)
  rcases hro.2 with ⟨h0, _⟩ | ⟨b, off, l, e, fr, rfl, rfl, hl, hcs⟩
  · omega
  have hseg := RoSl.elem C6.l_len hl hcs hlt
  have hok : xs[i].Ok := hx _ (List.getElem_mem hlt)
  have hnx : sumC (xs.take (i + 1)) = acc.plus xs[i] 6 := by rw [sumC_take xs i hlt, ← hacce]
  generalize xs[i] = x at hseg hok hnx
  have hacc : acc.Ok := hacce ▸ sumC_ok (fun c hc => hx c (List.mem_of_mem_take hc))
  refine aV (OpVal.ixSl tab_ok rfl rfl rfl rfl rfl hlt) ?_
  refine aV (OpVal.load tab_ok rfl (at_ro 0 rfl) (by show (match seg? l (off + i * 6) 6 with | some vs => some (Value.agg ⟨vs⟩) | none => none) = _; rw [hseg])) ?_
  refine W.new tab_ok rfl rfl (by decide) ?_
  intro b5
  refine aG ?_
  refine W.store tab_ok rfl Upd.here rfl rfl rfl rfl rfl rfl (W.step tab_ok rfl rfl ?_)
  refine aLp (fun m ρ1 L1 => ∃ (j : Nat) (ac2 : C6), j ≤ 6 ∧ ac2 = acc.plus x j ∧ m = 6 - j ∧ ρ1 = [(15, .int .i64 (j : Int)), (5, .pointer (some ⟨b5, 0, none⟩)), (9, .slice (some ⟨b, off, none⟩) xs.length cap), (10, .int .i64 (xs.length : Int)), (11, .int .i64 (i : Int)), (2, .pointer (some ⟨b2, 0, none⟩)), (3, .pointer (some ⟨b3, 0, none⟩))] ∧ L1 = [[(b3, .cells ac2.l.toArray 57 (0, 0))], [(b5, .cells x.l.toArray 57 (0, 0))], [(b2, .cells (⟨0, 0, 0, 0, 0, 0⟩ : C6).l.toArray 57 (0, 0))]]) (o := ⟨0, acc, Nat.zero_le _, rfl, rfl, rfl, rfl⟩) (h := ?_)
  rintro m ρ1 L1 ⟨j, ac2, hj, rfl, rfl, rfl, rfl⟩
  refine aG ?_
  by_cases hjl : j < 6
  ·
   refine aT ?_ (hb := by simp; omega)
   repeat refine gw ?_
   refine aC (o := Get_spec x (j : Int)) (h := ?_)
   rintro _ _ ⟨rfl, rfl⟩
   refine aG ?_
   repeat refine gw ?_
   refine aC (o := Add_spec (acc.plus x j) (j : Int) (x.get (j : Int)).1 (C6.plus_ok hacc hok j) (C6.get_u64 hok _)) (h := ?_)
   rintro _ _ ⟨rfl, rfl⟩
   refine aG ?_
   repeat refine gw ?_
   refine aV (OpVal.add rfl rfl (i64_in _ (by omega))) ?_
   refine aR (o := ⟨6 - (j + 1), by omega, j + 1, _, by omega, (C6.plus_succ _ _ _).symm, rfl, rfl, rfl⟩)
  ·
   refine aF ?_ (hb := by simp; omega)
   have hj6 : j = 6 := by omega
   subst hj6
   refine aV (OpVal.add rfl rfl (i64_in _ (by omega))) ?_
   refine aR (o := ⟨xs.length - (i + 1), by omega, i + 1, _, by omega, hnx.symm, rfl, rfl, rfl⟩)
 ·
  refine aF ?_ (hb := by simp; omega)
  have : i = xs.length := by omega
  subst this
  repeat refine gw ?_
  refine W.ret (fin _ _ (FinOk.mk' ([]) (aRc .nil) (by repeat (first | exact Sel.nil | (apply Sel.cons; (repeat (first | exact Pick.here | apply Pick.there))))) rfl ?_))
  refine ⟨?_, rfl⟩
  rw [List.take_length] at hacce
  rw [← hacce]
  rfl
end Go.Proofs.YtfpghdcjdnifcaaGreat
namespace Go.Proofs.YtfpghdcjdnifcaaGreat
open Go Go.Sl Go.IntWalk
set_option maxHeartbeats 4000000
set_option maxRecDepth 20000
set_option linter.unusedVariables false
structure Rs where
 id : Int
 errno : Int
 hit : Bool
 tick : Int
 data : List Int
 c : C6
structure Tn where
 m : Mc
 p : Pt
 js : List (Int × Rq)
 pages : Int
 ids : Int
 c : C6
 out : List Rs
def noJob : Int × Rq := (0, ⟨0, 0, 0, 0, []⟩)
def Tn.tell (t : Tn) (x : Re) (tick : Int) : Tn :=
 if x.done = true then { t with c := sumC [t.c, x.add], js := t.js.tail, out := t.out ++ [⟨(t.js.headD noJob).1, x.errno, x.hit, tick, x.data, if (t.js.headD noJob).2.op = 8 then sumC [t.c, x.add] else C6.none⟩] }
 else { t with c := sumC [t.c, x.add] }
def Tn.begun (t : Tn) (tick : Int) : Tn := ({ t with m := (mBegin t.m t.p (t.js.headD noJob).2).1, p := (mBegin t.m t.p (t.js.headD noJob).2).2.1 } : Tn).tell (mBegin t.m t.p (t.js.headD noJob).2).2.2 tick
def Tn.run (tick : Int) : Nat → Tn → Tn
 | 0, t => t
 | n + 1, t => if t.m.todo = [] ∧ t.js ≠ [] then Tn.run tick n (t.begun tick) else t
def Tn.go (t : Tn) (tick : Int) : Tn := t.run tick t.js.length
def Tn.submit (d : Nat) (t : Tn) (q : Rq) (tick : Int) : Tn × Int × Int :=
 if rcheck q t.pages ≠ 0 then (t, 0, rcheck q t.pages) else if d ≤ t.js.length then (t, 0, 8)
 else (({ t with js := t.js ++ [(t.ids + 1, q)], ids := t.ids + 1 } : Tn).go tick, t.ids + 1, 0)
def Tn.over (t : Tn) (e : Int) (bs : List Int) (tick : Int) : Tn :=
 (({ t with m := (mEnd t.m t.p e bs).1, p := (mEnd t.m t.p e bs).2.1 } : Tn).tell (mEnd t.m t.p e bs).2.2 tick).go tick
def Tn.taken (t : Tn) : Tn := { t with out := [] }
def Tn.new (n : Nat) (pages : Int) : Tn := ⟨Mc.idle, Pt.new n, [], pages, 0, C6.none, []⟩
structure JOk (q : Rq) : Prop where
 ok : q.Ok
 dl : q.data.length ≤ 32
theorem check_ok {q : Rq} {pages : Int} (h : rcheck q pages = 0) (hu : u8ok q.data) : JOk q := by
 unfold rcheck at h
 split at h
 · cases h
 ·
  rename_i h1
  split at h
  · cases h
  ·
   rename_i h2
   split at h
   · cases h
   ·
    rename_i h3
    have h4 : 1 ≤ q.op ∧ q.op ≤ 8 := Decidable.byContradiction fun hc => h1 (.inl hc)
    have h5 : q = rnamed q := Decidable.byContradiction fun hc => h1 (.inr hc)
    have h6 : 0 ≤ q.page := by
     by_cases h8 : q.op = 6 ∨ q.op = 8
     ·
      have := congrArg Rq.page h5
      unfold rnamed at this
      rw [if_neg (by omega), if_neg (by omega), if_neg (by omega)] at this
      simp only at this
      omega
     · omega
    exact ⟨⟨h4, h6, by unfold i64s; omega, by unfold i64s; omega, hu, by omega⟩, by omega⟩
structure TInv (d : Nat) (t : Tn) : Prop where
 mi : MInv t.m t.p
 cok : t.c.Ok
 jok : ∀ j ∈ t.js, JOk j.2
 len : t.js.length ≤ d
 bz : t.m.todo ≠ [] → t.js ≠ []
 ids : (t.out.length : Int) + t.js.length ≤ t.ids
theorem c6none_ok : C6.none.Ok := zero_ok
theorem sum2_ok {a b : C6} (ha : a.Ok) (hb : b.Ok) : (sumC [a, b]).Ok := sumC_ok fun c hc => by
 simp only [List.mem_cons, List.not_mem_nil, or_false] at hc
 rcases hc with rfl | rfl <;> assumption
theorem planFetch_ne (p : Int) (d : Bool) (o : Int) : planFetch p d o ≠ [] := by cases d <;> simp [planFetch, pages, both]
theorem planFlush_ne (ps : List Int) : planFlush ps ≠ [] := by simp [planFlush]
theorem c01 {c : C6} (h : c.h = 0 ∨ c.h = 1 := by first | exact .inl rfl | exact .inr rfl) (m : c.m = 0 ∨ c.m = 1 := by first | exact .inl rfl | exact .inr rfl) (e : c.e = 0 ∨ c.e = 1 := by first | exact .inl rfl | exact .inr rfl) (r : c.r = 0 ∨ c.r = 1 := by first | exact .inl rfl | exact .inr rfl) (w : c.w = 0 ∨ c.w = 1 := by first | exact .inl rfl | exact .inr rfl) (f : c.f = 0 ∨ c.f = 1 := by first | exact .inl rfl | exact .inr rfl) : c.Ok := by
 unfold C6.Ok u64; omega
theorem begin_done {m : Mc} {p : Pt} (ht : m.todo = []) (q : Rq) : (mBegin m p q).2.2.add.Ok ∧ ((mBegin m p q).2.2.done = true → (mBegin m p q).1.todo = []) ∧ ((mBegin m p q).2.2.done = false → (mBegin m p q).1.todo ≠ []) := by
 unfold mBegin mOp
 split
 ·
  unfold mFetch
  split
  ·
   refine ⟨?_, fun _ => ht, fun h => ?_⟩
   · simp only; split <;> exact c01
   · simp only at h; split at h <;> cases h
  ·
   unfold mMiss
   split
   · exact ⟨c01, fun _ => ht, fun h => by cases h⟩
   ·
    refine ⟨?_, fun h => (by cases h), fun _ => planFetch_ne _ _ _⟩
    simp only; split <;> exact c01
 ·
  split
  ·
   refine ⟨?_, fun _ => ht, fun h => ?_⟩
   · simp only [mRead]; split <;> exact c01
   · simp only [mRead] at h; split at h <;> cases h
  ·
   split
   ·
    refine ⟨?_, fun _ => ht, fun h => ?_⟩
    · simp only [mWrite]; split <;> exact c01
    · simp only [mWrite] at h; split at h <;> cases h
   ·
    split
    · exact ⟨zero_ok, fun _ => ht, fun h => by cases h⟩
    ·
     split
     · exact ⟨zero_ok, fun h => (by cases h), fun _ => planFlush_ne _⟩
     ·
      split
      · exact ⟨zero_ok, fun h => (by cases h), fun _ => planFlush_ne _⟩
      ·
       split
       · exact ⟨zero_ok, fun _ => ht, fun h => by cases h⟩
       · exact ⟨zero_ok, fun _ => ht, fun h => by cases h⟩
theorem end_done (m : Mc) (p : Pt) (e : Int) (bs : List Int) : (mEnd m p e bs).2.2.add.Ok ∧ ((mEnd m p e bs).2.2.done = true → (mEnd m p e bs).1.todo = []) ∧ ((mEnd m p e bs).2.2.done = false → (mEnd m p e bs).1.todo ≠ []) := by
 have hst : (mStep m p bs).2.2.Ok := by
  unfold mStep
  split
  · unfold mStored; split <;> exact c01
  · split <;> exact zero_ok
 unfold mEnd
 split
 · exact ⟨c01, fun _ => rfl, fun h => by cases h⟩
 ·
  split
  ·
   rename_i h
   exact ⟨hst, fun h => (by cases h), fun _ h2 => by rw [h2] at h; exact absurd h (by decide)⟩
  · exact ⟨hst, fun _ => rfl, fun h => by cases h⟩
theorem tell_inv {d : Nat} {t : Tn} {m : Mc} {p : Pt} {x : Re} (h : TInv d t) (hj : t.js ≠ []) (mi : MInv m p) (ha : x.add.Ok) (h1 : x.done = true → m.todo = []) (tick : Int) : TInv d (({ t with m := m, p := p } : Tn).tell x tick) := by
 unfold Tn.tell
 have hl := h.len
 have hi := h.ids
 have h0 : 0 < t.js.length := List.length_pos_iff.2 hj
 split
 ·
  rename_i hd
  exact ⟨mi, sum2_ok h.cok ha, fun j hm => h.jok j (List.mem_of_mem_tail hm), by simp only [List.length_tail]; omega, fun hb => absurd (h1 hd) hb, by simp only [List.length_tail, List.length_append, List.length_singleton]; omega⟩
 · exact ⟨mi, sum2_ok h.cok ha, h.jok, hl, fun _ => hj, hi⟩
theorem head_mem {js : List (Int × Rq)} (h : js ≠ []) : js.headD noJob ∈ js := by cases js with | nil => exact absurd rfl h | cons j js => simp
theorem begun_inv {d : Nat} {t : Tn} (h : TInv d t) (ht : t.m.todo = []) (hj : t.js ≠ []) (tick : Int) : TInv d (t.begun tick) := by
 have hq := h.jok _ (head_mem hj)
 have hd := begin_done (p := t.p) ht (t.js.headD noJob).2
 exact tell_inv h hj (begin_inv h.mi ht hq.ok.op.1 hq.ok.op.2 hq.ok.u8) hd.1 hd.2.1 tick
theorem run_inv {d : Nat} (tick : Int) : ∀ (n : Nat) {t : Tn}, TInv d t → TInv d (t.run tick n)
 | 0, t, h => h
 | n + 1, t, h => by
  unfold Tn.run
  split
  · rename_i hc; exact run_inv tick n (begun_inv h hc.1 hc.2 tick)
  · exact h
theorem begun_step {t : Tn} (ht : t.m.todo = []) (hj : t.js ≠ []) (tick : Int) : ((t.begun tick).m.todo = [] ∧ (t.begun tick).js = t.js.tail) ∨ ((t.begun tick).m.todo ≠ [] ∧ (t.begun tick).js = t.js) := by
 have hd := begin_done (p := t.p) ht (t.js.headD noJob).2
 unfold Tn.begun Tn.tell
 cases hx : (mBegin t.m t.p (t.js.headD noJob).2).2.2.done with
 | true => rw [if_pos rfl]; exact .inl ⟨hd.2.1 hx, rfl⟩
 | false => rw [if_neg (by simp)]; exact .inr ⟨hd.2.2 hx, rfl⟩
theorem run_busy (tick : Int) : ∀ (n : Nat) {t : Tn}, t.m.todo ≠ [] → t.run tick n = t
 | 0, t, _ => rfl
 | n + 1, t, h => by unfold Tn.run; rw [if_neg (fun hc => h hc.1)]
theorem run_none (tick : Int) : ∀ (n : Nat) {t : Tn}, t.js = [] → t.run tick n = t
 | 0, t, _ => rfl
 | n + 1, t, h => by unfold Tn.run; rw [if_neg (fun hc => hc.2 h)]
theorem go_begun {t : Tn} (ht : t.m.todo = []) (hj : t.js ≠ []) (tick : Int) : t.go tick = (t.begun tick).go tick := by
 have h0 : 0 < t.js.length := List.length_pos_iff.2 hj
 obtain ⟨k, hk⟩ : ∃ k, t.js.length = k + 1 := ⟨t.js.length - 1, by omega⟩
 have e : t.go tick = (t.begun tick).run tick k := by
  unfold Tn.go
  rw [hk]
  show (if t.m.todo = [] ∧ t.js ≠ [] then Tn.run tick k (t.begun tick) else t) = _
  rw [if_pos ⟨ht, hj⟩]
 rw [e]
 rcases begun_step ht hj tick with ⟨h1, h2⟩ | ⟨h1, h2⟩
 ·
  unfold Tn.go
  rw [h2, List.length_tail, hk]
  rfl
 · rw [run_busy _ _ h1]; unfold Tn.go; rw [run_busy _ _ h1]
theorem go_quiet {t : Tn} (h : t.m.todo ≠ [] ∨ t.js = []) (tick : Int) : t.go tick = t := by
 unfold Tn.go
 rcases h with h | h
 · exact run_busy _ _ h
 · exact run_none _ _ h
theorem put_inv {d : Nat} {t : Tn} (h : TInv d t) {q : Rq} (hq : JOk q) (hd : ¬ d ≤ t.js.length) : TInv d { t with js := t.js ++ [(t.ids + 1, q)], ids := t.ids + 1 } := by
 refine ⟨h.mi, h.cok, fun j hj => ?_, by simp only [List.length_append, List.length_singleton]; omega, fun _ => by simp, ?_⟩
 ·
  rcases List.mem_append.1 hj with hj | hj
  · exact h.jok j hj
  ·
   simp only [List.mem_singleton] at hj
   subst hj
   exact hq
 ·
  have := h.ids
  simp only [List.length_append, List.length_singleton]; omega
theorem submit_inv {d : Nat} {t : Tn} (h : TInv d t) {q : Rq} (hq : rcheck q t.pages = 0 → JOk q) (tick : Int) : TInv d (t.submit d q tick).1 := by
 unfold Tn.submit
 split
 · exact h
 ·
  rename_i hc
  split
  · exact h
  ·
   rename_i hd
   exact run_inv tick _ (put_inv h (hq (by simpa using hc)) hd)
theorem end_invE {m : Mc} {p : Pt} (h : MInv m p) (hne : m.todo ≠ []) (e : Int) {bs : List Int} (hb : e = 0 → u8ok bs ∧ bs.length = 16) : MInv (mEnd m p e bs).1 (mEnd m p e bs).2.1 := by
 rcases Classical.em (e = 0) with h0 | h0
 · exact end_inv h hne e (hb h0).1 (hb h0).2
 ·
  unfold mEnd
  rw [if_pos h0]
  exact idle_inv h.inv
theorem new_inv (d n : Nat) (h1 : 1 ≤ n) (h64 : n ≤ 64) (pages : Int) : TInv d (Tn.new n pages) := ⟨idle_inv (Pt.new_inv h1 h64), c6none_ok, fun _ h => (by cases h), Nat.zero_le _, fun h => absurd rfl h, by simp [Tn.new]⟩
theorem taken_inv {d : Nat} {t : Tn} (h : TInv d t) : TInv d t.taken := ⟨h.mi, h.cok, h.jok, h.len, h.bz, by have := h.ids; simp only [Tn.taken, List.length_nil]; omega⟩
end Go.Proofs.YtfpghdcjdnifcaaGreat
namespace Go.Proofs.YtfpghdcjdnifcaaGreat
open Go Go.Sl Go.IntWalk
set_option maxHeartbeats 8000000
set_option maxRecDepth 20000
set_option linter.unusedVariables false
structure Jb where
 id : Int
 op : Int
 page : Int
 off : Int
 len : Int
 a : Option Addr
 cap : Nat
 xs : List Int
def Jb.l (j : Jb) : List Value := [.int .i64 j.id, .int .i64 j.op, .int .i64 j.page, .int .i64 j.off, .int .i64 j.len, .slice j.a j.xs.length j.cap]
def QAt (m : Nat) (js : List Jb) (b : Nat) (H : HL) : Prop := ∃ (lx : List Value) (at_ br : Nat), lx.length = m * 6 ∧ 1 ≤ m ∧ m ≤ 8 ∧ js.length ≤ m ∧ at_ < m ∧ (∀ i (h : i < js.length), seg? lx (0 + (at_ + i) % m * 6) 6 = some js[i].l) ∧
 H = [(b, Obj.cells (List.toArray [.slice (some ⟨br, 0, none⟩) m m, .int .i64 (at_ : Int), .int .i64 (js.length : Int)]) 317 (0, 0))] ++ [(br, .cells lx.toArray 248 (0, 0))]
theorem QFull_spec (m : Nat) (js : List Jb) (b : Nat) (H : HL) (h : QAt m js b H) : Ctr Tryz.prog 226 [.pointer (some ⟨b, 0, none⟩)] [] H (fun v L' => v = .bool (decide ((js.length : Int) = (m : Int))) ∧ L' = []) := by
 obtain ⟨lx, at_, br, h1, h2, h3, h4, h5, h6, rfl⟩ := h
 refine Ctr.enter (n := 13) [.tmp 2] [(0, _)] Tryz.func226 rfl rfl rfl (lb rfl) Tryz.call226 ⟨rfl, trivial⟩ ?_
 intro cx fin fin0
 refine aG ?_
 refine W.draw follows (by decide +kernel) (zG ?_)
 refine gzx ?_
 refine WZ.nil (aG ?_)
 repeat refine gx ?_
 refine W.ret (fin _ _ (FinOk.first 0 (.tmp rfl .nil) rfl ?_))
 exact ⟨rfl, rfl⟩
theorem QLen_spec (m : Nat) (js : List Jb) (b : Nat) (H : HL) (h : QAt m js b H) : Ctr Tryz.prog 153 [.pointer (some ⟨b, 0, none⟩)] [] H (fun v L' => v = .int .i64 (js.length : Int) ∧ L' = []) := by
 obtain ⟨lx, at_, br, h1, h2, h3, h4, h5, h6, rfl⟩ := h
 refine Ctr.enter (n := 7) [.tmp 2] [(0, _)] Tryz.func153 rfl rfl rfl (lb rfl) Tryz.call153 ⟨rfl, trivial⟩ ?_
 intro cx fin fin0
 refine aG ?_
 repeat refine gx ?_
 refine W.ret (fin _ _ (FinOk.first 0 (.tmp rfl .nil) rfl ?_))
 exact ⟨rfl, rfl⟩
theorem QNew_spec (m : Nat) (h1 : 1 ≤ m) (h8 : m ≤ 8) : Ctr Tryz.prog 145 [.int .i64 (m : Int)] [] [] (fun v L' => ∃ b H, v = .tuple #[.pointer (some ⟨b, 0, none⟩), .int .i64 0] ∧ L' = [H] ∧ QAt m [] b H) := by
 have k1 : ¬ (m : Int) < 1 := by omega
 have k2 : ¬ (m : Int) > 1000 := by omega
 refine Ctr.enter (n := 14) [.tmp 2, .tmp 3] [(0, _)] Tryz.func145 rfl rfl rfl (lb rfl) Tryz.call145 ⟨rfl, trivial⟩ ?_
 intro cx fin fin0
 refine aG ?_
 repeat refine gh (gc2 k1 k2) ?_
 refine aW (NewOf.mks (bytes := 64) (len := m) (cap := m) tab_ok rfl rfl rfl rfl rfl rfl rfl rfl rfl (Nat.le_refl _) (by omega) (by omega)) ?_
 intro br
 refine aG ?_
 refine aBu (ps := [_]) ?_
 repeat (first | refine gx ?_ | refine gN fun _ => ?_ | refine gB fun _ => ?_ | fail)
 rename_i b
 refine W.groupV [0, 0] rfl ?_
 refine W.ret (fin _ _ (FinOk.first 1 (.tmp rfl (.tmp rfl .nil)) rfl ?_))
 exact ⟨b, _, rfl, rfl, _, 0, br, by rw [repL_len]; rfl, h1, h8, Nat.zero_le _, h1, (by intro i hi; simp at hi), rfl⟩
def Jb.zero : Jb := ⟨0, 0, 0, 0, 0, none, 0, []⟩
theorem QFirst_spec (m : Nat) (js : List Jb) (b : Nat) (H : HL) (h : QAt m js b H) : Ctr Tryz.prog 228 [.pointer (some ⟨b, 0, none⟩)] [] H
  (fun v L' => v = .tuple #[.agg (js.headD Jb.zero).l.toArray, .bool (decide (0 < js.length))] ∧ L' = []) := by
 obtain ⟨lx, at_, br, h1, h2, h3, h4, h5, h6, rfl⟩ := h
 cases js with
 | nil =>
  have hz : (([] : List Jb).length : Int) = 0 := rfl
  refine Ctr.enter (n := 21) [.cell 2 248, .tmp 3] [(0, _)] Tryz.func228 rfl rfl rfl (lb rfl) Tryz.call228 ⟨rfl, trivial⟩ ?_
  intro cx fin fin0
  refine aG ?_
  repeat (first | refine gh hz ?_ | refine gN fun _ => ?_ | refine gB fun _ => ?_ | fail)
  refine W.ret (fin _ _ (FinOk.first 0 (aRc (.tmp rfl .nil)) rfl ?_))
  exact ⟨rfl, rfl⟩
 | cons j js =>
  have hz : ¬ ((j :: js).length : Int) = 0 := by simp; omega
  have hs := h6 0 (by simp)
  rw [Nat.add_zero, Nat.mod_eq_of_lt h5] at hs
  have hs2 : seg? lx (0 + at_ * 6) 6 = some [.int .i64 j.id, .int .i64 j.op, .int .i64 j.page, .int .i64 j.off, .int .i64 j.len, .slice j.a j.xs.length j.cap] := hs
  refine Ctr.enter (n := 21) [.cell 2 248, .tmp 3] [(0, _)] Tryz.func228 rfl rfl rfl (lb rfl) Tryz.call228 ⟨rfl, trivial⟩ ?_
  intro cx fin fin0
  refine aG ?_
  repeat (first | refine gh hz ?_ | refine gN fun _ => ?_ | refine gB fun _ => ?_ | fail)
  refine W.drawH tab_ok 11 [.b false, .b false, .b false, .b false, .b false, .b false, .b false, .b false, .b false, .b false, .b true] [1] follows (by decide +kernel) (by decide +kernel) rfl (by decide) rfl ?_
  intro _
  refine dG ?_
  refine gdx ?_
  refine dV (OpVal.ixSl (j := at_) tab_ok rfl rfl rfl rfl rfl h5) ?_
  refine dV (OpVal.loadN ty_248.1 ty_248.2 rfl (show At _ _ br (.cells lx.toArray 248 (0, 0)) from .inr (by simp)) hs2) ?_
  refine gdx ?_
  refine WD.nil (W.dropNil (aG ?_))
  repeat refine gx ?_
  refine W.ret (fin _ _ (FinOk.first 0 (aRc (.tmp rfl .nil)) rfl ?_))
  exact ⟨by simp [pack, List.headD, Jb.l], rfl⟩
end Go.Proofs.YtfpghdcjdnifcaaGreat
namespace Go.Proofs.YtfpghdcjdnifcaaGreat
open Go Go.Sl Go.IntWalk
set_option maxHeartbeats 8000000
set_option maxRecDepth 20000
set_option linter.unusedVariables false
theorem spl2 {P : Program} {n : Nat} {R : HL} {cx : Cx} {K : List Kont} {ρ : Env} {L M : List HL} {A B : HL} (h : L = (A ++ B) :: M) (hk : W P n R cx K ρ (A :: B :: M)) : W P n R cx K ρ L := by
 subst h
 exact W.regroup (by simp) hk
theorem tmodN (a b : Nat) : (a : Int).tmod (b : Int) = ((a % b : Nat) : Int) := (Int.ofNat_tmod a b).symm
theorem mod2 {x m : Nat} (h : x < 2 * m) : x % m = if x < m then x else x - m := by
 split
 · exact Nat.mod_eq_of_lt ‹_›
 · rw [Nat.mod_eq_sub_mod (by omega), Nat.mod_eq_of_lt (by omega)]
theorem seg_splice_ne {l l' vs : List Value} {o p k : Nat} (h : splice? l o vs = some l') (hd : p + k ≤ o ∨ o + vs.length ≤ p) (hp : p + k ≤ l.length) : seg? l' p k = seg? l p k := by
 obtain ⟨h1, h2⟩ := splice?_eq _ _ _ h
 have hl : l'.length = l.length := by rw [h2]; simp; omega
 rw [seg?_of _ _ _ (by omega), seg?_of _ _ _ hp]
 congr 1
 apply List.ext_getElem?
 intro i
 rw [h2]
 simp only [List.getElem?_take, List.getElem?_drop, List.getElem?_append, List.length_append, List.length_take]
 split
 ·
  rcases hd with hd | hd
  · rw [if_pos (by omega), if_pos (by omega), if_pos (by omega)]
  ·
   rw [if_neg (by omega)]
   congr 1
   omega
 · rfl
theorem seg_splice_eq {l l' vs : List Value} {o : Nat} (h : splice? l o vs = some l') : seg? l' o vs.length = some vs := by
 obtain ⟨h1, h2⟩ := splice?_eq _ _ _ h
 have ht : (l.take o).length = o := by rw [List.length_take]; omega
 rw [seg?_of _ _ _ (by rw [h2]; simp; omega), h2, List.append_assoc, List.drop_append, ht, Nat.sub_self, List.drop_zero, List.drop_of_length_le (by omega)]
 simp
theorem splice_len {l l' vs : List Value} {o : Nat} (h : splice? l o vs = some l') : l'.length = l.length := by
 obtain ⟨h1, h2⟩ := splice?_eq _ _ _ h
 rw [h2]; simp; omega
theorem QPut_spec (m : Nat) (js : List Jb) (b : Nat) (H : HL) (h : QAt m js b H) (j : Jb) : Ctr Tryz.prog 167 [.pointer (some ⟨b, 0, none⟩), .agg j.l.toArray] [H] []
  (fun v L' => ∃ H', L' = [H'] ∧ ((js.length = m ∧ v = .int .i64 8 ∧ QAt m js b H') ∨ (js.length < m ∧ v = .int .i64 0 ∧ QAt m (js ++ [j]) b H'))) := by
 have hF := QFull_spec m js b H h
 have h0 := h
 obtain ⟨lx, at_, br, h1, h2, h3, h4, h5, h6, rfl⟩ := h
 by_cases hf : (js.length : Int) = (m : Int)
 ·
  refine Ctr.enter (n := 35) [.tmp 4] [(0, _), (1, _)] Tryz.func167 rfl rfl rfl (lb rfl) Tryz.call167 ⟨rfl, rfl, trivial⟩ ?_
  intro cx fin fin0
  refine aG ?_
  repeat (first | refine gx ?_ | refine gN fun _ => ?_ | refine gB fun _ => ?_ | fail)
  refine aC (o := hF) (h := ?_) (hro := RoIn.own 1 rfl)
  rintro _ _ ⟨rfl, rfl⟩
  refine aG ?_
  repeat refine gh hf ?_
  refine W.groupV [1] rfl ?_
  refine W.ret (fin _ _ (FinOk.first 1 (.tmp rfl .nil) rfl ?_))
  exact ⟨_, rfl, .inl ⟨by omega, rfl, h0⟩⟩
 ·
  have hlt : js.length < m := by omega
  have hw : (at_ + js.length) % m < m := Nat.mod_lt _ (by omega)
  have hsp := splice?_of lx (0 + (at_ + js.length) % m * 6) j.l (by rw [h1]; show 0 + _ * 6 + 6 ≤ m * 6; omega)
  generalize lx.take (0 + (at_ + js.length) % m * 6) ++ j.l ++ lx.drop (0 + (at_ + js.length) % m * 6 + j.l.length) = lx' at hsp
  have hq : QAt m (js ++ [j]) b ([(b, Obj.cells (List.toArray [.slice (some ⟨br, 0, none⟩) m m, .int .i64 (at_ : Int), .int .i64 ((js.length : Int) + 1)]) 317 (0, 0))] ++ [(br, .cells lx'.toArray 248 (0, 0))]) := by
   refine ⟨lx', at_, br, by rw [splice_len hsp, h1], h2, h3, by simp; omega, h5, fun i hi => ?_, by simp⟩
   have hi2 : i < js.length + 1 := by simpa using hi
   by_cases he : i = js.length
   ·
    subst he
    rw [List.getElem_append_right (Nat.le_refl _)]
    simp only [Nat.sub_self, List.getElem_singleton]
    exact seg_splice_eq hsp
   ·
    rw [List.getElem_append_left (by omega)]
    rw [seg_splice_ne hsp ?_ ?_]
    · exact h6 i (by omega)
    ·
     show _ ∨ 0 + _ * 6 + 6 ≤ _
     have e1 := mod2 (x := at_ + i) (m := m) (by omega)
     have e2 := mod2 (x := at_ + js.length) (m := m) (by omega)
     rw [e1, e2]
     split <;> split <;> omega
    ·
     have e1 := mod2 (x := at_ + i) (m := m) (by omega)
     rw [h1, e1]
     split <;> omega
  refine Ctr.enter (n := 35) [.tmp 4] [(0, _), (1, _)] Tryz.func167 rfl rfl rfl (lb rfl) Tryz.call167 ⟨rfl, rfl, trivial⟩ ?_
  intro cx fin fin0
  refine aG ?_
  repeat (first | refine gx ?_ | refine gN fun _ => ?_ | refine gB fun _ => ?_ | fail)
  refine aC (o := hF) (h := ?_) (hro := RoIn.own 1 rfl)
  rintro _ _ ⟨rfl, rfl⟩
  refine aG ?_
  repeat refine gh hf ?_
  refine W.order [1, 0] rfl ?_
  refine spl2 rfl ?_
  refine aG ?_
  refine W.drawTail 20 follows (by decide +kernel) (zG ?_)
  refine gzx ?_
  refine zV (OpVal.rem (r := (((at_ + js.length) % m : Nat) : Int)) rfl rfl (by omega) (by rw [← tmodN]; rfl)) ?_
  refine gzx ?_
  refine WZ.nil (aG ?_)
  refine aV (OpVal.ixSl tab_ok rfl rfl rfl rfl rfl hw) ?_
  refine W.store tab_ok rfl (Upd.there Upd.here) rfl rfl rfl rfl rfl hsp (aG ?_)
  repeat refine gx ?_
  refine W.groupV [0, 0] rfl ?_
  refine W.ret (fin _ _ (FinOk.first 1 (.tmp rfl .nil) rfl ?_))
  exact ⟨_, rfl, .inr ⟨hlt, rfl, hq⟩⟩
theorem QTake_spec (m : Nat) (j : Jb) (js : List Jb) (b : Nat) (H : HL) (h : QAt m (j :: js) b H) : Ctr Tryz.prog 263 [.pointer (some ⟨b, 0, none⟩)] [H] []
  (fun v L' => ∃ H', v = .tuple #[.agg j.l.toArray, .bool true] ∧ L' = [H'] ∧ QAt m js b H') := by
 have hF := QFirst_spec m (j :: js) b H h
 have e1 : (j :: js).headD Jb.zero = j := rfl
 have e2 : decide (0 < (j :: js).length) = true := by simp
 rw [e1, e2] at hF
 obtain ⟨lx, at_, br, h1, h2, h3, h4, h5, h6, rfl⟩ := h
 have hl : (j :: js).length = js.length + 1 := rfl
 have hsp := splice?_of lx (0 + at_ * 6) Jb.zero.l (by rw [h1]; show 0 + _ * 6 + 6 ≤ m * 6; omega)
 have ez : lx.take (0 + at_ * 6) ++ repL 1 Jb.zero.l ++ lx.drop (0 + at_ * 6 + 1 * 6) = lx.take (0 + at_ * 6) ++ Jb.zero.l ++ lx.drop (0 + at_ * 6 + Jb.zero.l.length) := rfl
 generalize lx.take (0 + at_ * 6) ++ Jb.zero.l ++ lx.drop (0 + at_ * 6 + Jb.zero.l.length) = lx' at hsp ez
 have hq : QAt m js b ([(b, Obj.cells (List.toArray [.slice (some ⟨br, 0, none⟩) m m, .int .i64 (((at_ + 1) % m : Nat) : Int), .int .i64 (((j :: js).length : Int) - 1)]) 317 (0, 0))] ++ [(br, .cells lx'.toArray 248 (0, 0))]) := by
  rw [show (((j :: js).length : Int) - 1) = (js.length : Int) by simp]
  refine ⟨lx', (at_ + 1) % m, br, by rw [splice_len hsp, h1], h2, h3, by omega, Nat.mod_lt _ (by omega), fun i hi => ?_, rfl⟩
  have h7 := h6 (i + 1) (by simpa using hi)
  have e3 : ((at_ + 1) % m + i) % m = (at_ + (i + 1)) % m := by rw [Nat.mod_add_mod]; congr 1; omega
  rw [e3, seg_splice_ne hsp ?_ ?_]
  · exact h7
  ·
   show _ ∨ 0 + _ * 6 + 6 ≤ _
   have e1 := mod2 (x := at_ + (i + 1)) (m := m) (by omega)
   rw [e1]
   split <;> omega
  ·
   have e1 := mod2 (x := at_ + (i + 1)) (m := m) (by omega)
   rw [h1, e1]
   split <;> omega
 refine Ctr.enter (n := 49) [.cell 2 248, .tmp 3] [(0, _)] Tryz.func263 rfl rfl rfl (lb rfl) Tryz.call263 ⟨rfl, trivial⟩ ?_
 intro cx fin fin0
 refine aG ?_
 repeat (first | refine gx ?_ | refine gN fun _ => ?_ | refine gB fun _ => ?_ | fail)
 refine aC (o := hF) (h := ?_) (hro := RoIn.own 1 rfl)
 rintro _ _ ⟨rfl, rfl⟩
 refine aG ?_
 repeat (first | refine gx ?_ | refine gN fun _ => ?_ | refine gB fun _ => ?_ | fail)
 refine W.order [2, 0, 0] rfl ?_
 refine spl2 rfl ?_
 refine aG ?_
 refine W.drawTail 14 follows (by decide +kernel) (zG ?_)
 refine gzx ?_
 refine zV (OpVal.pieceG (l := at_) (h := at_ + 1) (c := m) tab_ok rfl rfl rfl ⟨_, rfl⟩ ⟨_, rfl⟩ rfl (by omega) (by omega) (by omega)) ?_
 rw [if_neg (show ¬ m = at_ by omega), show at_ + 1 - at_ = 1 by omega]
 refine WZ.nil (aG ?_)
 refine aPu (clearSl (b := br) (m := 6) (ex := 248) (l := lx) (zs := Jb.zero.l) (z := .agg Jb.zero.l.toArray) tab_ok rfl rfl rfl rfl (by decide) rfl (by simp) rfl (by decide) (by rw [h1]; omega)) ?_
 rintro _ _ rfl
 refine aG ?_
 rw [ez]
 refine W.drawTail 12 follows (by decide +kernel) (zG ?_)
 refine gzx ?_
 refine zV (OpVal.rem (r := (((at_ + 1) % m : Nat) : Int)) rfl rfl (by omega) (by rw [← tmodN]; rfl)) ?_
 refine WZ.nil (aG ?_)
 repeat refine gx ?_
 refine W.groupV [1, 0] rfl ?_
 refine W.ret (fin _ _ (FinOk.first 1 (aRc (.tmp rfl .nil)) rfl ?_))
 exact ⟨_, rfl, rfl, hq⟩
end Go.Proofs.YtfpghdcjdnifcaaGreat
namespace Go.Proofs.YtfpghdcjdnifcaaGreat
open Go Go.Sl Go.IntWalk
set_option maxHeartbeats 8000000
set_option maxRecDepth 20000
set_option linter.unusedVariables false
structure Ro where
 r : Rs
 a : Option Addr
 n : Nat
 c : Nat
def Ro.l (o : Ro) : List Value := [.int .i64 o.r.id, .int .i64 o.r.errno, .bool o.r.hit, .int .i64 o.r.tick, .slice o.a o.n o.c, .int .u64 o.r.c.h, .int .u64 o.r.c.m, .int .u64 o.r.c.e, .int .u64 o.r.c.r, .int .u64 o.r.c.w, .int .u64 o.r.c.f]
def Jb.j (j : Jb) : Int × Rq := (j.id, ⟨j.op, j.page, j.off, j.len, j.xs⟩)
def TAt (d : Nat) (t : Tn) (b bp : Nat) (H : HL) : Prop := ∃ (bm bq : Nat) (ao : Option Addr) (co : Nat) (ls : List Jb) (los : List Ro) (Hm Hq Ho D : HL),
 H = [(b, Obj.cells (List.toArray [.pointer (some ⟨bm, 0, none⟩), .pointer (some ⟨bp, 0, none⟩), .pointer (some ⟨bq, 0, none⟩), .int .i64 t.pages, .int .i64 t.ids, .int .u64 t.c.h, .int .u64 t.c.m, .int .u64 t.c.e, .int .u64 t.c.r, .int .u64 t.c.w, .int .u64 t.c.f, .slice ao los.length co]) 252 (0, 0))] ++ (Hm ++ (Hq ++ (Ho ++ D))) ∧
 MAt t.m bm bp Hm ∧ QAt d ls bq Hq ∧ ls.map Jb.j = t.js ∧ Own 11 59 (los.flatMap Ro.l) ao los.length co Ho ∧ los.map Ro.r = t.out ∧
 (∀ j ∈ ls, ∃ r, RoSl 1 (u8s j.xs) j.a j.xs.length r ∧ ∀ q ∈ r, q ∈ D) ∧ (∀ o ∈ los, ∃ r, RoSl 1 (u8s o.r.data) o.a o.n r ∧ o.r.data.length = o.n ∧ ∀ q ∈ r, q ∈ D)
theorem spl5 {P : Program} {n : Nat} {R : HL} {cx : Cx} {K : List Kont} {ρ : Env} {L M : List HL} {A B C D E : HL} (h : L = (A ++ (B ++ (C ++ (D ++ E)))) :: M) (hk : W P n R cx K ρ (A :: B :: C :: D :: E :: M)) : W P n R cx K ρ L := by
 subst h
 exact W.regroup (by simp) hk
theorem sum2_at {a c : C6} (b : Nat) {e : TypeId} : RoSl 6 ([a, c].flatMap C6.l) (some ⟨b, 0, none⟩) [a, c].length [(b, .cells (List.toArray [.int .u64 a.h, .int .u64 a.m, .int .u64 a.e, .int .u64 a.r, .int .u64 a.w, .int .u64 a.f, .int .u64 c.h, .int .u64 c.m, .int .u64 c.e, .int .u64 c.r, .int .u64 c.w, .int .u64 c.f]) e (0, 0))] :=
 ⟨rfl, .inr ⟨b, 0, _, e, (0, 0), rfl, rfl, Nat.le_refl _, rfl⟩⟩
theorem Tell_spec (d : Nat) (t : Tn) (b bp : Nat) (H : HL) (ht : TAt d t b bp H) (x : Re) (hx : x.done = true → t.js ≠ []) (hc : t.c.Ok) (ha : x.add.Ok) (tick : Int) (a : Option Addr) (n c : Nat) (Hd : HL) (hd : RoSl 1 (u8s x.data) a n Hd) (hn : x.data.length = n) (hout : t.out.length ≤ 1000000) :
  Ctr Tryz.prog 229 [.pointer (some ⟨b, 0, none⟩), x.v a n c, .int .i64 tick] [H, Hd] [] (fun _ L' => ∃ H', L' = [H'] ∧ TAt d (t.tell x tick) b bp H') := by
 obtain ⟨bm, bq, ao, co, ls, los, Hm, Hq, Ho, D, rfl, hm, hq, hls, hown, hlo, hlj, hll⟩ := ht
 have hlen : los.length ≤ 1000000 := by rw [← hlo, List.length_map] at hout; exact hout
 have hS := fun bs => Sum_spec [t.c, x.add] (fun q hq => by simp only [List.mem_cons, List.not_mem_nil, or_false] at hq; rcases hq with rfl | rfl <;> assumption) (lb rfl) (some ⟨bs, 0, none⟩) 2 _ (sum2_at (e := 57) bs)
 have htl : t.tell x tick = t.tell x tick := rfl
 conv at htl => rhs; unfold Tn.tell
 generalize t.tell x tick = out at *
 obtain ⟨xd, xe, xh, xdat, ⟨k1, k2, k3, k4, k5, k6⟩⟩ := x
 obtain ⟨tm, tp, tjs, tpg, tids, ⟨c1, c2, c3, c4, c5, c6⟩, tout⟩ := t
 simp only at *
 generalize sumC [⟨c1, c2, c3, c4, c5, c6⟩, ⟨k1, k2, k3, k4, k5, k6⟩] = sm at *
 obtain ⟨s1, s2, s3, s4, s5, s6⟩ := sm
 simp only [Re.v]
 refine Ctr.enter (n := 57) [] [(0, _), (1, _), (2, _)] Tryz.func229 rfl rfl rfl (lb rfl) Tryz.call229 ⟨rfl, rfl, rfl, trivial⟩ ?_
 intro cx fin fin0
 refine aG ?_
 repeat (first | refine gx ?_ | refine gN fun _ => ?_ | refine gB fun _ => ?_ | fail)
 refine W.order [1, 0, 0] rfl ?_
 refine spl5 rfl ?_
 refine aG ?_
 refine W.drawH tab_ok 12 [.b false, .b false, .b false, .b false, .b true, .b false, .b false, .b true, .b true, .b false, .b false, .b true] [0] follows (by decide +kernel) (by decide +kernel) rfl (by decide) rfl ?_
 intro _
 refine dG ?_
 refine dLA ?_
 refine gdx ?_
 refine dSl (ps := [_, _]) ?_
 intro bs
 refine dG ?_
 refine dC (o := hS bs) (h := ?_) (hro := RoIn.own 0 rfl)
 rintro _ _ ⟨rfl, rfl⟩
 refine dG ?_
 refine gdx ?_
 refine WD.nil (W.dropNil (aG ?_))
 refine W.order [1, 1, 1, 1, 3, 1, 1, 0] rfl ?_
 cases xd with
 | false =>
  rw [if_neg (by simp)] at htl
  subst htl
  repeat refine gx ?_
  refine W.groupV [0, 0, 0, 0, 0, 0] rfl ?_
  refine W.ret (fin _ _ (FinOk.first 1 .nil rfl ?_))
  exact ⟨_, rfl, bm, bq, ao, co, ls, los, Hm, Hq, Ho, Hd ++ D, rfl, hm, hq, hls, hown, hlo, fun j hj => (hlj j hj).imp fun r h => ⟨h.1, fun q hq => List.mem_append_right _ (h.2 q hq)⟩, fun o ho => (hll o ho).imp fun r h => ⟨h.1, h.2.1, fun q hq => List.mem_append_right _ (h.2.2 q hq)⟩⟩
 | true =>
  rw [if_pos rfl] at htl
  cases ls with
  | nil => exact absurd hls.symm (hx rfl)
  | cons j ls =>
   have hT := QTake_spec d j ls bq Hq hq
   have hjl := hlj
   obtain ⟨jid, jop, jpg, joff, jlen, ja, jc, jxs⟩ := j
   have hjd : (tjs.headD noJob) = (jid, ⟨jop, jpg, joff, jlen, jxs⟩) := by rw [← hls]; rfl
   have htj : tjs.tail = ls.map Jb.j := by rw [← hls]; rfl
   rw [hjd, htj] at htl
   simp only at htl
   simp only [Jb.l] at hT
   have hfin : ∀ (sc : C6) (a' : Option Addr) (c' : Nat) (Ho' Hq2 : HL), QAt d ls bq Hq2 → Own 11 59 (los.flatMap Ro.l ++ (⟨⟨jid, xe, xh, tick, xdat, sc⟩, a, n, c⟩ : Ro).l) a' (los.length + 1) c' Ho' →
     TAt d ⟨tm, tp, ls.map Jb.j, tpg, tids, ⟨s1, s2, s3, s4, s5, s6⟩, tout ++ [⟨jid, xe, xh, tick, xdat, sc⟩]⟩ b bp ([(b, Obj.cells (List.toArray [.pointer (some ⟨bm, 0, none⟩), .pointer (some ⟨bp, 0, none⟩), .pointer (some ⟨bq, 0, none⟩), .int .i64 tpg, .int .i64 tids, .int .u64 s1, .int .u64 s2, .int .u64 s3, .int .u64 s4, .int .u64 s5, .int .u64 s6, .slice a' (los.length + 1) c']) 252 (0, 0))] ++ (Hm ++ (Hq2 ++ (Ho' ++ (Hd ++ D))))) := by
    intro sc a' c' Ho' Hq2 hq2 ho
    have el : (los ++ [(⟨⟨jid, xe, xh, tick, xdat, sc⟩, a, n, c⟩ : Ro)]).length = los.length + 1 := by simp
    refine ⟨bm, bq, a', c', ls, los ++ [⟨⟨jid, xe, xh, tick, xdat, sc⟩, a, n, c⟩], Hm, Hq2, Ho', Hd ++ D, by rw [el], hm, hq2, rfl, ?_, ?_, ?_, ?_⟩
    · rw [el, List.flatMap_append, List.flatMap_singleton]; exact ho
    · rw [List.map_append, hlo]; rfl
    · exact fun j hj => (hjl j (List.mem_cons_of_mem _ hj)).imp fun r h => ⟨h.1, fun q hq => List.mem_append_right _ (h.2 q hq)⟩
    ·
     intro o ho
     rcases List.mem_append.1 ho with ho | ho
     · exact (hll o ho).imp fun r h => ⟨h.1, h.2.1, fun q hq => List.mem_append_right _ (h.2.2 q hq)⟩
     ·
      rw [List.mem_singleton.1 ho]
      exact ⟨Hd, hd, hn, fun q hq => List.mem_append_left _ hq⟩
   rcases Classical.em (jop = 8) with h8 | h8
   case' inl => rw [if_pos h8] at htl
   case' inr => rw [if_neg h8] at htl
   all_goals
    subst htl
    repeat refine gx ?_
    refine aC (o := hT) (h := ?_)
    rintro _ _ ⟨Hq2, rfl, rfl, hq2⟩
    refine aG ?_
    repeat (first | refine gh h8 ?_ | refine gN fun _ => ?_ | refine gB fun _ => ?_ | fail)
    refine W.order [3, 3, 2, 2, 2, 2, 0] rfl ?_
    refine W.drawH tab_ok 8 [.b false, .b false, .b false, .b false, .b false, .b false, .b true, .b true] [3] follows (by decide +kernel) (by decide +kernel) rfl (by decide) rfl ?_
    intro _
    refine dG ?_
    refine gdx ?_
    refine dSl (ps := [_]) ?_
    intro bt
    refine dG ?_
    refine dAp (hown) ?_
    rintro _ _ ⟨_, _, _, rfl, rfl, ho⟩
    refine dG ?_
    refine gdx ?_
    refine WD.nil (W.dropNil (aG ?_))
    repeat refine gx ?_
    refine W.groupV [2, 2, 2, 0, 1, 1] rfl ?_
    refine fin0 _ _ (FinOk.first 1 .nil rfl ?_)
    exact ⟨_, rfl, hfin _ _ _ _ _ hq2 ho⟩
end Go.Proofs.YtfpghdcjdnifcaaGreat
namespace Go.Proofs.YtfpghdcjdnifcaaGreat
open Go Go.Sl Go.IntWalk
set_option maxHeartbeats 8000000
set_option maxRecDepth 20000
set_option linter.unusedVariables false
theorem _root_.Go.Sl.Ctr.regroup {P : Program} {f : FuncId} {args : List Value} {pre pre' : List HL} {ro : HL} {post : Value → List HL → Prop} (h : Ctr P f args pre ro post) (e : pre.flatten = pre'.flatten) : Ctr P f args pre' ro post :=
 ⟨h.callable, by rw [← e]; exact h.go⟩
def tM (t : Tn) : Nat := t.js.length + (if t.m.todo = [] then 1 else 0)
theorem tM_begun {t : Tn} (ht : t.m.todo = []) (hj : t.js ≠ []) (tick : Int) : tM (t.begun tick) < tM t := by
 have h0 : 0 < t.js.length := List.length_pos_iff.2 hj
 unfold tM
 rw [if_pos ht]
 rcases begun_step ht hj tick with ⟨h1, h2⟩ | ⟨h1, h2⟩
 · rw [if_pos h1, h2, List.length_tail]; omega
 · rw [if_neg h1, h2]; omega
theorem tell_ids (t : Tn) (x : Re) (tick : Int) : (t.tell x tick).ids = t.ids := by unfold Tn.tell; split <;> rfl
theorem begun_ids (t : Tn) (tick : Int) : (t.begun tick).ids = t.ids := tell_ids _ _ _
theorem run_ids (tick : Int) : ∀ (n : Nat) (t : Tn), (t.run tick n).ids = t.ids
 | 0, t => rfl
 | n + 1, t => by
  unfold Tn.run
  split
  · rw [run_ids tick n, begun_ids]
  · rfl
theorem Run_spec (d : Nat) (t : Tn) (hi : TInv d t) (hid : t.ids ≤ 1000000) (b bp : Nat) (H : HL) (ht : TAt d t b bp H) (Hp : HL) (hp : PtAt t.p bp Hp) (tick : Int) :
  Ctr Tryz.prog 169 [.pointer (some ⟨b, 0, none⟩), .int .i64 tick] [H, Hp] [] (fun _ L' => ∃ H' Hp', L' = [H', Hp'] ∧ TAt d (t.go tick) b bp H' ∧ PtAt (t.go tick).p bp Hp') := by
 generalize hres : t.go tick = res
 refine Ctr.enter (n := 32) [] [(0, _), (1, _)] Tryz.func169 rfl rfl rfl (lb rfl) Tryz.call169 ⟨rfl, rfl, trivial⟩ ?_
 intro cx fin fin0
 refine aG ?_
 refine aLp (fun k ρ1 L1 => ∃ (t' : Tn) (H' Hp' : HL), TInv d t' ∧ t'.ids ≤ 1000000 ∧ res = t'.go tick ∧ TAt d t' b bp H' ∧ PtAt t'.p bp Hp' ∧ k = tM t' ∧ ρ1 = [(0, .pointer (some ⟨b, 0, none⟩)), (1, .int .i64 tick)] ∧ L1 = [H', Hp']) (o := ⟨t, H, Hp, hi, hid, hres.symm, ht, hp, rfl, rfl, rfl⟩) (h := ?_)
 clear ht hp hi hid hres t H Hp
 rintro k ρ1 L1 ⟨t, H, Hp, hi, hid, rfl, ht, hp, rfl, rfl, rfl⟩
 have hta := ht
 obtain ⟨bm, bq, ao, co, ls, los, Hm, Hq, Ho, D, rfl, hm, hq, hls, hown, hlo, hlj, hll⟩ := ht
 have hB := Busy_spec t.m bm bp Hm hm
 have hF := QFirst_spec d ls bq Hq hq
 refine spl5 rfl ?_
 refine aG ?_
 repeat refine gx ?_
 refine aC (o := hB) (h := ?_) (hro := RoIn.own 1 rfl)
 rintro _ _ ⟨rfl, rfl⟩
 refine aG ?_
 repeat refine gx ?_
 rcases Classical.em (t.m.todo = []) with h0 | h0
 case' inr =>
  have hz : 0 < ((t.m.todo.length : Nat) : Int) := by have := List.length_pos_iff.2 h0; omega
  repeat refine gh hz ?_
  refine W.groupV [0, 0, 0, 0, 0] rfl ?_
  refine fin0 _ _ (FinOk.first 2 .nil rfl ?_)
  rw [go_quiet (.inl h0)]
  exact ⟨_, _, rfl, hta, hp⟩
 have hz : ¬ 0 < ((t.m.todo.length : Nat) : Int) := by rw [h0]; decide
 repeat refine gh hz ?_
 refine aC (o := hF) (h := ?_) (hro := RoIn.own 2 rfl)
 rintro _ _ ⟨rfl, rfl⟩
 refine aG ?_
 cases ls with
 | nil =>
  repeat (first | refine gx ?_ | refine gN fun _ => ?_ | refine gB fun _ => ?_ | fail)
  refine W.groupV [1, 1, 1, 1, 1] rfl ?_
  refine W.order [0, 1] rfl ?_
  refine W.ret (fin _ _ (FinOk.first 2 .nil rfl ?_))
  rw [go_quiet (.inr hls.symm)]
  exact ⟨_, _, rfl, hta, hp⟩
 | cons j ls =>
  have hne : t.js ≠ [] := by rw [← hls]; simp
  have hhd : t.js.headD noJob = j.j := by rw [← hls]; rfl
  have hJ := hi.jok _ (head_mem hne)
  rw [hhd] at hJ
  obtain ⟨rj, hrj, hsub⟩ := hlj j (by simp)
  have hbi := begun_inv hi h0 hne tick
  have hbm := tM_begun h0 hne tick
  have hbd := begun_ids t tick
  rw [go_begun h0 hne tick]
  have hd := begin_done (p := t.p) h0 j.j.2
  have hbg : t.begun tick = ({ t with m := (mBegin t.m t.p j.j.2).1, p := (mBegin t.m t.p j.j.2).2.1 } : Tn).tell (mBegin t.m t.p j.j.2).2.2 tick := by unfold Tn.begun; rw [hhd]
  have hBg := Begin_spec t.m bm bp Hm hm t.p hi.mi.inv Hp hp j.j.2 hJ.ok.op.1 hJ.ok.op.2 hJ.ok.off j.a j.cap rj hrj
  have hout : t.out.length ≤ 1000000 := by have := hi.ids; omega
  have hT : ∀ (an : Option Addr) (nn cn : Nat) (H' Hd : HL), MAt (mBegin t.m t.p j.j.2).1 bm bp H' → RoSl 1 (u8s (mBegin t.m t.p j.j.2).2.2.data) an nn Hd → (mBegin t.m t.p j.j.2).2.2.data.length = nn → Ctr Tryz.prog 229 [.pointer (some ⟨b, 0, none⟩), (mBegin t.m t.p j.j.2).2.2.v an nn cn, .int .i64 tick]
    [[(b, Obj.cells (List.toArray [.pointer (some ⟨bm, 0, none⟩), .pointer (some ⟨bp, 0, none⟩), .pointer (some ⟨bq, 0, none⟩), .int .i64 t.pages, .int .i64 t.ids, .int .u64 t.c.h, .int .u64 t.c.m, .int .u64 t.c.e, .int .u64 t.c.r, .int .u64 t.c.w, .int .u64 t.c.f, .slice ao los.length co]) 252 (0, 0))], H', Hq, Ho, D, Hd] [] (fun _ L' => ∃ H', L' = [H'] ∧ TAt d (t.begun tick) b bp H') := fun an nn cn H' Hd g1 g3 g4 => by
   rw [hbg]
   exact (Tell_spec d ({ t with m := (mBegin t.m t.p j.j.2).1, p := (mBegin t.m t.p j.j.2).2.1 } : Tn) b bp _ ⟨bm, bq, ao, co, j :: ls, los, H', Hq, Ho, D, rfl, g1, hq, hls, hown, hlo, hlj, hll⟩ (mBegin t.m t.p j.j.2).2.2 (fun _ => hne) hi.cok hd.1 tick an nn cn Hd g3 g4 hout).regroup (by simp)
  have hbp : ∀ Hp', PtAt (mBegin t.m t.p j.j.2).2.1 bp Hp' → PtAt (t.begun tick).p bp Hp' := fun Hp' h => by
   rw [hbg]; unfold Tn.tell; split <;> exact h
  generalize t.begun tick = t2 at *
  generalize mBegin t.m t.p j.j.2 = mb at *
  repeat (first | refine gx ?_ | refine gN fun _ => ?_ | refine gB fun _ => ?_ | fail)
  refine W.order [1, 1, 1, 1, 1, 1, 0] rfl ?_
  refine W.drawH tab_ok 10 [.b false, .b false, .b false, .b false, .b true, .b false, .b false, .b true, .b false, .b true] [0,1,2,3,4,5] follows (by decide +kernel) (by decide +kernel) rfl (by decide) rfl ?_
  intro _
  refine dG ?_
  refine dLA ?_
  refine gdx ?_
  refine dC (o := hBg) (h := ?_) (hro := (fun q hq => .inl (by simp [hsub q hq])))
  rintro _ _ ⟨an, nn, cn, H', Hp', Hd, rfl, rfl, g1, g2, g3, g4⟩
  refine dG ?_
  refine gdx ?_
  refine dC (o := hT an nn cn H' Hd g1 g3 g4) (h := ?_)
  rintro _ _ ⟨H2, rfl, ht2⟩
  refine dG ?_
  refine WD.nil (W.dropNil (aG ?_))
  refine aR (o := ⟨tM t2, hbm, t2, H2, Hp', hbi, by omega, rfl, ht2, hbp _ g2, rfl, rfl, rfl⟩)
end Go.Proofs.YtfpghdcjdnifcaaGreat
namespace Go.Proofs.YtfpghdcjdnifcaaGreat
open Go Go.Sl Go.IntWalk
set_option maxHeartbeats 8000000
set_option maxRecDepth 20000
set_option linter.unusedVariables false
theorem Submit_spec (d : Nat) (t : Tn) (hi : TInv d t) (hid : t.ids < 1000000) (b bp : Nat) (H : HL) (ht : TAt d t b bp H) (Hp : HL) (hp : PtAt t.p bp Hp) (q : Rq) (hu : u8ok q.data) (hl : q.data.length ≤ 1000000) (hoi : i64s q.off) (hop : i64s q.op) (hq : rcheck q t.pages = 0 → JOk q) (aq : Option Addr) (cq : Nat) (rq : HL) (hrq : RoSl 1 (u8s q.data) aq q.data.length rq) (tick : Int) :
  Ctr Tryz.prog 107 [.pointer (some ⟨b, 0, none⟩), q.v aq cq, .int .i64 tick] [H, Hp] rq (fun v L' => ∃ H' Hp', v = .tuple #[.int .i64 (t.submit d q tick).2.1, .int .i64 (t.submit d q tick).2.2] ∧ L' = [H', Hp'] ∧ TAt d (t.submit d q tick).1 b bp H' ∧ PtAt (t.submit d q tick).1.p bp Hp') := by
 have hta := ht
 obtain ⟨bm, bq, ao, co, ls, los, Hm, Hq, Ho, D, rfl, hm, hqa, hls, hown, hlo, hlj, hll⟩ := ht
 have hC := Check_spec q t.pages hu hl aq cq rq hrq hoi hop
 have hCl := RClone_spec q hl aq cq rq hrq
 have hlen : ls.length = t.js.length := by rw [← hls, List.length_map]
 have hids := hi.ids
 have hput := fun h hd => put_inv hi (hq h) hd
 have hsub : t.submit d q tick = t.submit d q tick := rfl
 conv at hsub => rhs; unfold Tn.submit
 generalize t.submit d q tick = out at *
 obtain ⟨qo, qp, qf, ql, qd⟩ := q
 have hP := fun a' c' => QPut_spec d ls bq Hq hqa ⟨t.ids + 1, qo, qp, qf, ql, a', c', qd⟩
 simp only [Rq.v] at hC hCl ⊢
 generalize rcheck ⟨qo, qp, qf, ql, qd⟩ t.pages = rc at *
 refine Ctr.enter (n := 51) [.tmp 6, .tmp 7] [(0, _), (1, _), (2, _)] Tryz.func107 rfl rfl rfl (lb rfl) Tryz.call107 ⟨rfl, rfl, rfl, trivial⟩ ?_
 intro cx fin fin0
 refine aG ?_
 repeat (first | refine gx ?_ | refine gN fun _ => ?_ | refine gB fun _ => ?_ | fail)
 refine W.order [1, 1, 0] rfl ?_
 refine spl5 rfl ?_
 refine aG ?_
 refine W.draw follows (by decide +kernel) (zG ?_)
 refine gzx ?_
 refine zC (o := hC) (h := ?_) (hro := RoIn.same)
 refine gzx ?_
 refine WZ.nil (aG ?_)
 rcases Classical.em (rc = 0) with h0 | h0
 case' inr =>
  rw [if_pos h0] at hsub
  subst hsub
  repeat refine gh h0 ?_
  refine W.groupV [0, 0, 0, 0, 0] rfl ?_
  refine W.order [0, 0] rfl ?_
  refine W.ret (fin _ _ (FinOk.first 2 (.tmp rfl (.tmp rfl .nil)) rfl ?_))
  exact ⟨_, _, rfl, rfl, hta, hp⟩
 rw [if_neg (fun h => h h0)] at hsub
 repeat refine gh h0 ?_
 refine W.drawH tab_ok 14 [.b false, .b false, .b false, .b false, .b false, .b false, .b false, .b false, .b false, .b false, .b true, .b false, .b true, .b false] [2] follows (by decide +kernel) (by decide +kernel) rfl (by decide) rfl ?_
 intro _
 refine dG ?_
 refine gdx ?_
 refine dC (o := hCl) (h := ?_) (hro := RoIn.all (fun q hq => by simp [hq]))
 rintro _ _ ⟨a2, c2, H2, rfl, rfl, hr2⟩
 refine dG ?_
 refine gdx ?_
 refine dV (OpVal.build (ps := [_, _]) tab_ok rfl rfl rfl rfl (by repeat (first | exact trivial | refine ⟨⟨_, _, _, rfl, rfl, rfl⟩, ?_⟩)) rfl) ?_
 refine dC (o := hP a2 c2) (h := ?_)
 rintro _ _ ⟨Hq2, rfl, ⟨g1, rfl, g2⟩ | ⟨g1, rfl, g2⟩⟩
 refine dG ?_
 ·
  refine gdx ?_
  refine WD.nil (W.dropNil (aG ?_))
  repeat refine gx ?_
  have hf : d ≤ t.js.length := by omega
  rw [if_pos hf] at hsub
  subst hsub
  refine W.groupV [2, 2, 0, 1, 1] rfl ?_
  refine W.order [0, 1] rfl ?_
  refine W.ret (fin _ _ (FinOk.first 2 (.tmp rfl (.tmp rfl .nil)) rfl ?_))
  exact ⟨_, _, rfl, rfl, ⟨bm, bq, ao, co, ls, los, Hm, Hq2, Ho, _, rfl, hm, g2, hls, hown, hlo, hlj, hll⟩, hp⟩
 ·
  refine dG ?_
  refine gdx ?_
  refine WD.nil (W.dropNil (aG ?_))
  repeat refine gx ?_
  have hf : ¬ d ≤ t.js.length := by omega
  rw [if_neg hf] at hsub
  subst hsub
  have hTA : TAt d { t with js := t.js ++ [(t.ids + 1, ⟨qo, qp, qf, ql, qd⟩)], ids := t.ids + 1 } b bp ([(b, Obj.cells (List.toArray [.pointer (some ⟨bm, 0, none⟩), .pointer (some ⟨bp, 0, none⟩), .pointer (some ⟨bq, 0, none⟩), .int .i64 t.pages, .int .i64 (t.ids + 1), .int .u64 t.c.h, .int .u64 t.c.m, .int .u64 t.c.e, .int .u64 t.c.r, .int .u64 t.c.w, .int .u64 t.c.f, .slice ao los.length co]) 252 (0, 0))] ++ (Hm ++ (Hq2 ++ (Ho ++ (H2 ++ D))))) := by
   refine ⟨bm, bq, ao, co, _, los, Hm, Hq2, Ho, H2 ++ D, rfl, hm, g2, by rw [List.map_append, hls]; rfl, hown, hlo, fun j hj => ?_, fun o ho => (hll o ho).imp fun r h => ⟨h.1, h.2.1, fun q hq => List.mem_append_right _ (h.2.2 q hq)⟩⟩
   rcases List.mem_append.1 hj with hj | hj
   · exact (hlj j hj).imp fun r h => ⟨h.1, fun q hq => List.mem_append_right _ (h.2 q hq)⟩
   ·
    rw [List.mem_singleton.1 hj]
    exact ⟨H2, hr2, fun q hq => List.mem_append_left _ hq⟩
  have hR := Run_spec d _ (hput h0 hf) (by show t.ids + 1 ≤ 1000000; omega) b bp _ hTA Hp hp tick
  refine W.groupV [2, 2, 0, 1, 0, 0] rfl ?_
  refine aC (o := hR) (h := ?_)
  rintro _ _ ⟨H3, Hp3, rfl, ht3, hp3⟩
  refine aG ?_
  repeat refine gx ?_
  refine W.ret (fin _ _ (FinOk.first 2 (.tmp rfl (.tmp rfl .nil)) rfl ?_))
  exact ⟨_, _, rfl, rfl, ht3, hp3⟩
theorem Out_spec (d : Nat) (t : Tn) (b bp : Nat) (H : HL) (ht : TAt d t b bp H) : Ctr Tryz.prog 94 [.pointer (some ⟨b, 0, none⟩)] [H] []
  (fun v L' => ∃ (los : List Ro) (a : Option Addr) (c : Nat) (H' Ho D : HL), v = .slice a los.length c ∧ L' = [H', Ho] ∧ TAt d t.taken b bp H' ∧ los.map Ro.r = t.out ∧ RoSl 11 (los.flatMap Ro.l) a los.length Ho ∧ (∀ q ∈ D, q ∈ H') ∧ (∀ o ∈ los, ∃ r, RoSl 1 (u8s o.r.data) o.a o.n r ∧ o.r.data.length = o.n ∧ ∀ q ∈ r, q ∈ D)) := by
 obtain ⟨bm, bq, ao, co, ls, los, Hm, Hq, Ho, D, rfl, hm, hqa, hls, hown, hlo, hlj, hll⟩ := ht
 refine Ctr.enter (n := 12) [.tmp 2] [(0, _)] Tryz.func94 rfl rfl rfl (lb rfl) Tryz.call94 ⟨rfl, trivial⟩ ?_
 intro cx fin fin0
 refine aG ?_
 refine spl5 rfl ?_
 refine aG ?_
 repeat refine gx ?_
 refine W.nilChunk ?_
 refine W.groupV [1, 1, 1, 0, 1] rfl ?_
 refine W.order [0, 0] rfl ?_
 refine W.ret (fin _ _ (FinOk.first 2 (.tmp rfl .nil) rfl ?_))
 exact ⟨los, ao, co, _, Ho, D, rfl, rfl, ⟨bm, bq, none, 0, ls, [], Hm, Hq, [], D, rfl, hm, hqa, hls, Own.nil 11 _, rfl, hlj, fun _ h => (by cases h)⟩, hlo, Own.roSl hown, fun q hq => by simp [hq], hll⟩
theorem Count_spec (d : Nat) (t : Tn) (b bp : Nat) (H : HL) (ht : TAt d t b bp H) : Ctr Tryz.prog 96 [.pointer (some ⟨b, 0, none⟩)] [] H (fun v L' => v = t.c.v ∧ L' = []) := by
 obtain ⟨bm, bq, ao, co, ls, los, Hm, Hq, Ho, D, rfl, hm, hqa, hls, hown, hlo, hlj, hll⟩ := ht
 refine Ctr.enter (n := 7) [.cell 2 57] [(0, _)] Tryz.func96 rfl rfl rfl (lb rfl) Tryz.call96 ⟨rfl, trivial⟩ ?_
 intro cx fin fin0
 refine aG ?_
 repeat (first | refine gx ?_ | refine gN fun _ => ?_ | refine gB fun _ => ?_ | fail)
 refine W.ret (fin _ _ (FinOk.first 0 (aRc .nil) rfl ?_))
 exact ⟨rfl, rfl⟩
theorem Waits_spec (d : Nat) (t : Tn) (b bp : Nat) (H : HL) (ht : TAt d t b bp H) : Ctr Tryz.prog 95 [.pointer (some ⟨b, 0, none⟩)] [] H (fun v L' => v = .int .i64 (t.js.length : Int) ∧ L' = []) := by
 obtain ⟨bm, bq, ao, co, ls, los, Hm, Hq, Ho, D, rfl, hm, hqa, hls, hown, hlo, hlj, hll⟩ := ht
 have hL := QLen_spec d ls bq Hq hqa
 have hlen : ls.length = t.js.length := by rw [← hls, List.length_map]
 rw [hlen] at hL
 refine Ctr.enter (n := 8) [.tmp 2] [(0, _)] Tryz.func95 rfl rfl rfl (lb rfl) Tryz.call95 ⟨rfl, trivial⟩ ?_
 intro cx fin fin0
 refine aG ?_
 repeat refine gx ?_
 refine aC (o := hL) (h := ?_) (hro := RoIn.all (fun q hq => by simp [hq]))
 rintro _ _ ⟨rfl, rfl⟩
 refine aG ?_
 repeat refine gx ?_
 refine W.ret (fin _ _ (FinOk.first 0 (.tmp rfl .nil) rfl ?_))
 exact ⟨rfl, rfl⟩
theorem TNew_spec (n d : Nat) (h1 : 1 ≤ d) (h8 : d ≤ 8) (pages : Int) (hp1 : 1 ≤ pages) (hp64 : pages ≤ 64) (bp : Nat) : Ctr Tryz.prog 89 [.pointer (some ⟨bp, 0, none⟩), .int .i64 (d : Int), .int .i64 pages] [] []
  (fun v L' => ∃ b H, v = .tuple #[.pointer (some ⟨b, 0, none⟩), .int .i64 0] ∧ L' = [H] ∧ TAt d (Tn.new n pages) b bp H) := by
 have k1 : ¬ (d : Int) < 1 := by omega
 have k2 : ¬ (d : Int) > 8 := by omega
 have k3 : ¬ pages < 1 := by omega
 have k4 : ¬ pages > 64 := by omega
 have hQ := QNew_spec d h1 h8
 have hM := MNew_spec bp
 refine Ctr.enter (n := 37) [.tmp 6, .tmp 7] [(0, _), (1, _), (2, _)] Tryz.func89 rfl rfl rfl (lb rfl) Tryz.call89 ⟨rfl, rfl, rfl, trivial⟩ ?_
 intro cx fin fin0
 refine aG ?_
 repeat refine gh (gc4 k1 k2 k3 k4) ?_
 refine aC (o := hQ) (h := ?_)
 rintro _ _ ⟨bq, Hq, rfl, rfl, hq⟩
 refine aG ?_
 repeat refine gx ?_
 refine aC (o := hM) (h := ?_)
 rintro _ _ ⟨bm, Hm, rfl, rfl, hm⟩
 refine aG ?_
 repeat refine gx ?_
 refine aBu (ps := [_, _, _, _]) ?_
 repeat (first | refine gx ?_ | refine gN fun _ => ?_ | refine gB fun _ => ?_ | fail)
 refine W.nilChunk ?_
 refine W.nilChunk ?_
 refine W.groupV [2, 2, 2, 0, 0] rfl ?_
 refine W.ret (fin _ _ (FinOk.first 1 (.tmp rfl (.tmp rfl .nil)) rfl ?_))
 exact ⟨_, _, rfl, rfl, bm, bq, none, 0, [], [], Hm, Hq, [], [], rfl, hm, hq, rfl, Own.nil 11 _, rfl, fun _ h => (by cases h), fun _ h => (by cases h)⟩
end Go.Proofs.YtfpghdcjdnifcaaGreat
namespace Go.Proofs.YtfpghdcjdnifcaaGreat
def poly : Nat := 3988292384
def cstep (x : Nat) : Nat := if x % 2 = 1 then (x / 2) ^^^ poly else x / 2
def csteps : Nat → Nat → Nat
 | 0, x => x
 | k + 1, x => csteps k (cstep x)
theorem csteps_add (a b x : Nat) : csteps (a + b) x = csteps b (csteps a x) := by
 induction a generalizing x with
 | zero => rw [Nat.zero_add]; rfl
 | succ a ih => rw [Nat.succ_add]; exact ih (cstep x)
theorem cstep_xor (a b : Nat) : cstep (a ^^^ b) = cstep a ^^^ cstep b := by
 have h2 : (a ^^^ b) / 2 = a / 2 ^^^ b / 2 := Nat.xor_div_two
 have h1 : (a ^^^ b) % 2 = (a % 2) ^^^ (b % 2) := Nat.xor_mod_two_pow (n := 1)
 unfold cstep
 rw [h1, h2]
 rcases Nat.mod_two_eq_zero_or_one a with ha | ha <;> rcases Nat.mod_two_eq_zero_or_one b with hb | hb <;> rw [ha, hb]
 · rfl
 · rw [if_pos (by decide), if_neg (by decide), if_pos rfl, Nat.xor_assoc]
 · rw [if_pos (by decide), if_pos rfl, if_neg (by decide), Nat.xor_assoc, Nat.xor_assoc, Nat.xor_comm poly]
 · rw [if_neg (by decide), if_pos rfl, if_pos rfl, Nat.xor_assoc, Nat.xor_comm poly, Nat.xor_assoc, Nat.xor_self, Nat.xor_zero]
theorem csteps_xor (k a b : Nat) : csteps k (a ^^^ b) = csteps k a ^^^ csteps k b := by
 induction k generalizing a b with
 | zero => rfl
 | succ k ih => show csteps k (cstep (a ^^^ b)) = _; rw [cstep_xor, ih]; rfl
theorem cstep_even (m : Nat) : cstep (2 * m) = m := by
 unfold cstep
 rw [if_neg (by omega)]
 omega
theorem csteps_even (q : Nat) : csteps 8 (256 * q) = q := by
 have e : 256 * q = 2 * (2 * (2 * (2 * (2 * (2 * (2 * (2 * q))))))) := by omega
 rw [e]
 simp only [csteps, cstep_even]
theorem poly_lt : poly < 2 ^ 32 := by decide
theorem cstep_lt {x : Nat} (h : x < 2 ^ 32) : cstep x < 2 ^ 32 := by
 unfold cstep
 split
 · exact Nat.xor_lt_two_pow (by omega) poly_lt
 · omega
theorem csteps_lt : ∀ (k : Nat) {x : Nat}, x < 2 ^ 32 → csteps k x < 2 ^ 32
 | 0, _, h => h
 | k + 1, _, h => csteps_lt k (cstep_lt h)
def crow (c : Nat) : Nat := csteps 8 c
theorem split256 (y : Nat) : y = (256 * (y / 256)) ^^^ (y % 256) := by
 have h : 256 * (y / 256) + y % 256 = y := by omega
 have h2 : 2 ^ 8 * (y / 256) + y % 256 = 2 ^ 8 * (y / 256) ||| y % 256 := Nat.two_pow_add_eq_or_of_lt (by omega) _
 apply Nat.eq_of_testBit_eq
 intro i
 rw [Nat.testBit_xor]
 conv => lhs; rw [← h]
 have h3 : 256 * (y / 256) + y % 256 = 256 * (y / 256) ||| y % 256 := h2
 rw [h3, Nat.testBit_or]
 have h4 : (256 * (y / 256)).testBit i = (decide (8 ≤ i) && (y / 256).testBit (i - 8)) := by
  have := Nat.testBit_two_pow_mul (a := y / 256) (i := 8) (j := i)
  simpa using this
 have h5 : (y % 256).testBit i = (decide (i < 8) && y.testBit i) := by
  have := Nat.testBit_mod_two_pow y 8 i
  simpa using this
 rw [h4, h5]
 by_cases hi : i < 8
 · simp [hi, show ¬ 8 ≤ i by omega]
 · simp [hi]
theorem csteps_row (y : Nat) : csteps 8 y = (y / 256) ^^^ crow (y % 256) := by
 conv => lhs; rw [split256 y]
 rw [csteps_xor, csteps_even]
 rfl
theorem crc_byte (x c : Nat) (hc : c < 256) : csteps 8 (x ^^^ c) = (x / 256) ^^^ crow ((x % 256) ^^^ c) := by
 rw [csteps_row]
 have h1 : (x ^^^ c) / 256 = x / 256 := by
  have := Nat.xor_div_two_pow (a := x) (b := c) (n := 8)
  rw [show (2 : Nat) ^ 8 = 256 from rfl] at this
  rw [this, Nat.div_eq_of_lt hc, Nat.xor_zero]
 have h2 : (x ^^^ c) % 256 = (x % 256) ^^^ c := by
  have := Nat.xor_mod_two_pow (a := x) (b := c) (n := 8)
  rw [show (2 : Nat) ^ 8 = 256 from rfl] at this
  rw [this, Nat.mod_eq_of_lt hc]
 rw [h1, h2]
theorem xor_all {n : Nat} (h : n < 2 ^ 32) : 4294967295 ^^^ n = 4294967295 - n := by
 have h1 : (BitVec.allOnes 32 ^^^ BitVec.ofNat 32 n).toNat = 4294967295 - n := by
  rw [BitVec.allOnes_xor, BitVec.toNat_not, BitVec.toNat_ofNat, Nat.mod_eq_of_lt h]
 rw [BitVec.toNat_xor, BitVec.toNat_allOnes, BitVec.toNat_ofNat, Nat.mod_eq_of_lt h] at h1
 exact h1
def crcFrom : Nat → List Nat → Nat
 | x, [] => x
 | x, c :: l => crcFrom (csteps 8 (x ^^^ c)) l
def crcNat (l : List Nat) : Nat := 4294967295 - crcFrom 4294967295 l
theorem crcFrom_append (x : Nat) (a b : List Nat) : crcFrom x (a ++ b) = crcFrom (crcFrom x a) b := by
 induction a generalizing x with
 | nil => rfl
 | cons c l ih => exact ih _
theorem crcFrom_lt : ∀ {l : List Nat} {x : Nat}, x < 2 ^ 32 → (∀ c ∈ l, c < 256) → crcFrom x l < 2 ^ 32
 | [], _, h, _ => h
 | c :: l, x, h, hl => crcFrom_lt (l := l) (csteps_lt 8 (Nat.xor_lt_two_pow h (Nat.lt_of_lt_of_le (hl c (by simp)) (by decide)))) fun d hd => hl d (by simp [hd])
end Go.Proofs.YtfpghdcjdnifcaaGreat
namespace Go.Sl
open Go Go.IntWalk
set_option linter.unusedVariables false
section
variable {P : Program} {n : Nat} {R : HL} {cx : Cx} {k : List Kont} {ρ : Env} {L : List HL} {α : Type}
def IsMq (kk : IntKind) (f : α → Value) (m : List (Int × α)) (b : Nat) (H : HL) : Prop :=
 ∃ es clock, H = [(b, .map es clock)] ∧ MapIs kk f es.toList m ∧ (∀ x ∈ es.toList, x.born < clock) ∧ (es.toList.map (·.born)).Nodup
def IsRg (kk : IntKind) (f : α → Value) (m todo : List (Int × α)) (cur : Option (Int × α)) (b r : Nat) (H : HL) : Prop :=
 ∃ es clock since seen c0, H = [(b, .map es clock), (r, .mapIter (some b) since seen c0)] ∧ MapIs kk f es.toList m ∧ (es.toList.map (·.born)).Nodup ∧ (∀ x ∈ es.toList, x.born < since) ∧ (∀ x ∈ es.toList, x.born < clock) ∧ since ≤ c0 ∧ since ≤ clock ∧
  MapIs kk f (leftOf es seen).toList todo ∧ ∀ q, cur = some q → ∃ (s : Array Nat) (e : MapEntry), seen = s.push e.born ∧ c0 = clock ∧ e ∈ es.toList ∧ e.key = .int kk q.1 ∧ e.val = f q.2
theorem MapIs.at_ {kk : IntKind} {f : α → Value} {es : List MapEntry} {m : List (Int × α)} (h : MapIs kk f es m) {j : Nat} {e : MapEntry} (he : es[j]? = some e) : ∃ hj : j < m.length, e.key = .int kk m[j].1 ∧ e.val = f m[j].2 := by
 unfold MapIs at h
 have h1 := congrArg (·[j]?) h
 simp only [List.getElem?_map, he, Option.map_some] at h1
 cases hm : m[j]? with
 | none => rw [hm] at h1; cases h1
 | some q =>
  rw [hm] at h1
  obtain ⟨hj, rfl⟩ := List.getElem?_eq_some_iff.1 hm
  simp only [Option.map_some, Option.some.injEq, Prod.mk.injEq] at h1
  exact ⟨hj, h1.1, h1.2⟩
theorem filter_erase {es : List MapEntry} (hn : (es.map (·.born)).Nodup) : ∀ {j : Nat} {e : MapEntry}, es[j]? = some e → es.filter (fun x => !(x.born == e.born)) = es.eraseIdx j := by
 induction es with
 | nil => intro j e h; simp at h
 | cons a l ih =>
  intro j e h
  simp only [List.map_cons, List.nodup_cons] at hn
  cases j with
  | zero =>
   simp only [List.getElem?_cons_zero, Option.some.injEq] at h
   subst h
   rw [List.filter_cons, if_neg (by simp), List.eraseIdx_cons_zero, List.filter_eq_self]
   intro x hx
   have : x.born ≠ a.born := fun h => hn.1 (by rw [← h]; exact List.mem_map_of_mem (f := (·.born)) hx)
   simpa using this
  | succ j =>
   have h' : l[j]? = some e := by simpa using h
   have hm : e ∈ l := List.mem_of_getElem? h'
   have hne : a.born ≠ e.born := fun h => hn.1 (by rw [h]; exact List.mem_map_of_mem (f := (·.born)) hm)
   rw [List.filter_cons, if_pos (by simpa using hne), List.eraseIdx_cons_succ, ih hn.2 h']
theorem leftOf_push {es : Array MapEntry} {seen : Array Nat} (hn : (es.toList.map (·.born)).Nodup) {j : Nat} {e : MapEntry} (h : (leftOf es seen).toList[j]? = some e) : (leftOf es (seen.push e.born)).toList = (leftOf es seen).toList.eraseIdx j := by
 have hs : ((leftOf es seen).toList.map (·.born)).Nodup := by
  unfold leftOf
  rw [Array.toList_filter]
  exact hn.sublist (List.Sublist.map _ List.filter_sublist)
 rw [← filter_erase hs h]
 unfold leftOf
 rw [Array.toList_filter, Array.toList_filter, List.filter_filter]
 congr 1
 funext x
 simp only [Array.contains_push, Bool.not_or, Bool.and_comm]
theorem NewOf.range {t kt et ty : TypeId} {x : Operand} {b clock : Nat} {es : Array MapEntry} (ht : P.underlying t = some (.map kt et)) (hx : ev? ρ x = some (.map (some b))) (hb : At R L b (.map es clock)) :
  NewOf P n R cx (.range t x) ty ρ L (.mapIter (some b) clock #[] clock) (fun r => .pointer (some ⟨r, 0, none⟩)) := by
 refine ⟨fun oo a w ho hty hf hs => ⟨w.drawn, ?_⟩⟩
 unfold execOp; rw [ho]
 have hg := MapKept.run_getObj_map (P := P) (hb.heap hs)
 simp [Instr.range, hf.ev hx, run_underlying ht, hg, Result.andThen, newObj, Sem.run]
theorem IsMq.rg {kk : IntKind} {f : α → Value} {m : List (Int × α)} {b r clock : Nat} {es : Array MapEntry} (hm : MapIs kk f es.toList m) (hc : ∀ x ∈ es.toList, x.born < clock) (hn : (es.toList.map (·.born)).Nodup) :
  IsRg kk f m m none b r [(b, .map es clock), (r, .mapIter (some b) clock #[] clock)] := by
 refine ⟨es, clock, clock, #[], clock, rfl, hm, hn, hc, hc, Nat.le_refl _, Nat.le_refl _, ?_, fun q h => by cases h⟩
 have : leftOf es #[] = es := by unfold leftOf; simp
 rw [this]
 exact hm
theorem IsRg.mq {kk : IntKind} {f : α → Value} {m todo : List (Int × α)} {cur : Option (Int × α)} {b r : Nat} {H : HL} (h : IsRg kk f m todo cur b r H) : ∃ H1 H2, H = H1 ++ H2 ∧ IsMq kk f m b H1 := by
 obtain ⟨es, clock, since, seen, c0, rfl, hm, hn, hb, hb2, hsc, -, ht, -⟩ := h
 exact ⟨[_], [_], rfl, es, clock, rfl, hm, hb2, hn⟩
theorem St.setO2 (w : World) (i b r : Nat) (o o1 o2 : Obj) (hb : w.heap[b]? = some o) (hr : w.heap[r]? = some o1) (hne : b ≠ r) : St w [b, r] [] [[(b, o), (r, o2)]] { w with heap := w.heap.setIfInBounds r o2, drawn := i } := by
 refine ⟨?_, by simp [ids, hne], ?_, ?_, by simp, fun _ h => (by cases h), ⟨rfl, rfl, rfl⟩⟩
 ·
  intro p hp
  simp at hp
  rcases hp with rfl | rfl
  ·
   show (w.heap.setIfInBounds r o2)[b]? = some o
   rw [(MapKept.heap_set hr).2 b hne]; exact hb
  · exact (MapKept.heap_set hr).1
 ·
  intro j _ hj
  exact (MapKept.heap_set hr).2 j (by simp at hj; exact hj.2)
 ·
  intro j hj
  simp [ids] at hj
  simp [hj]
theorem mapNext {kk : IntKind} {f : α → Value} {m todo : List (Int × α)} {cur : Option (Int × α)} {b r ty : Nat} {x : Operand} {H : HL} (hx : ev? ρ x = some (.pointer (some ⟨r, 0, none⟩))) (hH : ∀ p ∈ H, p ∈ L.flatten) (h : IsRg kk f m todo cur b r H) :
  Prim P n R cx (.next x false) ty ρ L [H] (fun v L' => ∃ H', L' = [H'] ∧ ((todo = [] ∧ v = .tuple #[.bool false] ∧ IsRg kk f m todo cur b r H') ∨
   ∃ (j : Nat) (hj : j < todo.length), v = .tuple #[.bool true, .int kk todo[j].1, f todo[j].2] ∧ IsRg kk f m (todo.eraseIdx j) (some todo[j]) b r H')) := by
 obtain ⟨es, clock, since, seen, c0, rfl, hm, hn, hb, hb2, hsc, hsk, ht, hcur⟩ := h
 refine ⟨fun oo a w ho hty hf hs => ?_⟩
 have h1 := hs.has (b, .map es clock) (hH _ (by simp))
 have h2 := hs.has (r, .mapIter (some b) since seen c0) (hH _ (by simp))
 have hne : b ≠ r := by rintro rfl; rw [h1] at h2; cases h2
 rcases run_next_at (P := P) w oo.type r b since c0 seen es clock h2 h1 hb hsc with ⟨g1, g2⟩ | ⟨e, g1, w1, g2, g3⟩
 ·
  refine ⟨_, [[(b, .map es clock), (r, .mapIter (some b) since seen c0)]], { w with heap := w.heap.setIfInBounds r (.mapIter (some b) since seen c0) }, ?_, ⟨_, rfl, .inl ⟨?_, rfl, es, clock, since, seen, c0, rfl, hm, hn, hb, hb2, hsc, hsk, ht, hcur⟩⟩, ?_⟩
  ·
   unfold execOp; rw [ho]
   have e0 : w.heap.setIfInBounds r (.mapIter (some b) since seen c0) = w.heap := by
    apply Array.ext_getElem?
    intro i
    by_cases hi : i = r
    · subst hi; rw [(MapKept.heap_set h2).1, h2]
    · exact (MapKept.heap_set h2).2 i hi
   rw [e0]
   simp [hf.ev hx, g2, Result.andThen]
  ·
   unfold MapIs at ht
   have hz : (leftOf es seen).toList = [] := by rw [← List.length_eq_zero_iff]; simpa using g1
   rw [hz] at ht
   simpa using ht.symm
  · simpa [ids] using St.setO2 w w.drawn b r _ _ (.mapIter (some b) since seen c0) h1 h2 hne
 ·
  obtain ⟨j, hj⟩ := List.getElem?_of_mem g1
  obtain ⟨hjt, k1, k2⟩ := ht.at_ hj
  have hem : e ∈ es.toList := by
   have := List.mem_of_getElem? hj
   unfold leftOf at this
   rw [Array.toList_filter] at this
   exact (List.mem_filter.1 this).1
  refine ⟨_, [[(b, .map es clock), (r, .mapIter (some b) since (seen.push e.born) clock)]], ChangeMaps.setBlock w1 r (.mapIter (some b) since (seen.push e.born) clock), ?_, ⟨_, rfl, .inr ⟨j, hjt, rfl, es, clock, since, seen.push e.born, clock, rfl, hm, hn, hb, hb2, hsk, hsk, ?_, ?_⟩⟩, ?_⟩
  ·
   unfold execOp; rw [ho]
   simp [hf.ev hx, g3, k1, k2, Result.andThen]
  ·
   rw [leftOf_push hn hj]
   unfold MapIs at ht ⊢
   rw [map_eraseIdx, ht, map_eraseIdx]
  ·
   intro q hq
   cases hq
   exact ⟨seen, e, rfl, rfl, hem, k1, k2⟩
  ·
   rcases g2 with rfl | rfl
   · exact St.setO2 w1 w1.drawn b r _ _ (.mapIter (some b) since (seen.push e.born) clock) h1 h2 hne
   · exact St.setO2 w (w.drew).drawn b r _ _ (.mapIter (some b) since (seen.push e.born) clock) h1 h2 hne
theorem OpVal.entry {kk : IntKind} {f : α → Value} {m todo : List (Int × α)} {q : Int × α} {b r ty : Nat} {x : Operand} {H : HL} (hx : ev? ρ x = some (.pointer (some ⟨r, 0, none⟩))) (hH : ∀ p ∈ H, At R L p.1 p.2) (h : IsRg kk f m todo (some q) b r H) :
  OpVal P n R cx (.entry x) ty ρ L (.tuple #[.int kk q.1, f q.2]) := by
 obtain ⟨es, clock, since, seen, c0, rfl, hm, hn, hb, hb2, hsc, hsk, ht, hcur⟩ := h
 obtain ⟨s, e, rfl, rfl, h1, h2, h3⟩ := hcur q rfl
 refine ⟨fun oo a w ho hty hf hs => ?_⟩
 have g1 := (hH (b, .map es c0) (by simp)).heap hs
 have g2 := (hH (r, .mapIter (some b) since (s.push e.born) c0) (by simp)).heap hs
 have g3 := run_entry_at (P := P) w r b since s es c0 e g2 g1 h1 hn
 unfold execOp; rw [ho]
 simp [hf.ev hx, g3, h2, h3, Result.andThen]
theorem mqPut {t kt et ty : TypeId} {x y u : Operand} {b : Nat} {m : List (Int × α)} {kk : IntKind} {key : Int} {v : α} {f : α → Value} {H : HL}
  (ht : P.underlying t = some (.map kt et)) (hk : P.underlying kt = some (.int kk)) (hx : ev? ρ x = some (.map (some b))) (hy : ev? ρ y = some (.int kk key)) (hu : ev? ρ u = some (f v))
  (hH : ∀ p ∈ H, p ∈ L.flatten) (hm : IsMq kk f m b H) : Skips P n R cx (.mapUpdate t x y u) ty ρ L [H] (fun L' => ∃ H', L' = [H'] ∧ IsMq kk f (mput m key v) b H') := by
 obtain ⟨es, clock, rfl, hm, hbc, hbn⟩ := hm
 refine ⟨fun oo a w ho hty hf hs => ?_⟩
 have hb := hs.has (b, .map es clock) (hH _ (by simp))
 have hg := MapKept.run_getObj_map (P := P) hb
 have hik : MapKept.IsKey (.int kk) (.int kk key) := by simp [MapKept.IsKey]
 have hck := fun e => MapKept.run_checkKey (P := P) (w := w) (k := .int kk key) hk hik e 9999
 rcases find_spec (k' := kk) key es.toList m 0 hm with ⟨g1, g2, g3, _⟩ | ⟨j, v0, e, g1, g2, g3, g4, g5, g6, _⟩
 ·
  refine ⟨_, { w with heap := w.heap.setIfInBounds b (.map (es.push { key := .int kk key, val := f v, born := clock }) (clock + 1)) }, ?_, ⟨_, rfl, es.push { key := .int kk key, val := f v, born := clock }, clock + 1, rfl, ?_, ?_, ?_⟩, ?_⟩
  ·
   unfold execOp; rw [ho]
   simp [Instr.mapUpdate, hf.ev hx, hf.ev hy, hf.ev hu, run_underlying ht, hg, hck, MapKept.run_findKey hk g2, MapKept.run_setObj_map _ hb, Result.andThen]
  ·
   unfold MapIs at hm ⊢
   rw [g3]
   simp [hm]
  ·
   intro x hx
   simp only [Array.toList_push, List.mem_append, List.mem_singleton] at hx
   rcases hx with hx | rfl
   · have := hbc x hx; omega
   · show clock < clock + 1; omega
  ·
   simp only [Array.toList_push, List.map_append, List.map_cons, List.map_nil]
   rw [List.nodup_append]
   refine ⟨hbn, by simp, ?_⟩
   intro x hx y hy
   obtain ⟨e, he, rfl⟩ := List.mem_map.1 hx
   have := hbc e he
   simp at hy
   omega
  · simpa [ids] using St.setO w w.drawn b _ (.map (es.push { key := .int kk key, val := f v, born := clock }) (clock + 1)) hb
 ·
  have hes : es[0 + j]? = some e := by simpa using g3
  have hmap : (es.modify (0 + j) fun e => { e with key := .int kk key, val := f v }).toList.map (·.born) = es.toList.map (·.born) := by
   rw [Array.toList_modify]
   apply List.ext_getElem?
   intro q
   simp only [List.getElem?_map, List.getElem?_modify]
   cases es.toList[q]? with
   | none => rfl
   | some e => simp only [Option.map_eq_map, Option.map_some]; split <;> rfl
  refine ⟨_, { w with heap := w.heap.setIfInBounds b (.map (es.modify (0 + j) fun e => { e with key := .int kk key, val := f v }) clock) }, ?_, ⟨_, rfl, es.modify (0 + j) fun e => { e with key := .int kk key, val := f v }, clock, rfl, ?_, ?_, ?_⟩, ?_⟩
  ·
   unfold execOp; rw [ho]
   simp [Instr.mapUpdate, hf.ev hx, hf.ev hy, hf.ev hu, run_underlying ht, hg, hck, MapKept.run_findKey hk g2, Result.andThen]
   have hes' : es[j]? = some e := by simpa using g3
   simp [hes', g4, MapKept.run_keyThatStays hik, MapKept.run_setObj_map _ hb]
  ·
   unfold MapIs at hm ⊢
   rw [g6, List.map_set, ← hm, Nat.zero_add]
   apply List.ext_getElem?
   intro q
   simp only [Array.toList_modify, List.getElem?_map, List.getElem?_modify, List.getElem?_set]
   have hjl : j < es.toList.length := (List.getElem?_eq_some_iff.1 g3).1
   by_cases hq : j = q
   ·
    subst hq
    simp only [List.length_map, hjl, if_true]
    rw [g3]
    rfl
   · simp [hq]
  ·
   intro x hx
   have h1 : x.born ∈ (es.modify (0 + j) fun e => { e with key := .int kk key, val := f v }).toList.map (·.born) := List.mem_map_of_mem (f := (·.born)) hx
   rw [hmap] at h1
   obtain ⟨e', he', h2⟩ := List.mem_map.1 h1
   have := hbc e' he'
   omega
  · rw [hmap]; exact hbn
  · simpa [ids] using St.setO w w.drawn b _ (.map (es.modify (0 + j) fun e => { e with key := .int kk key, val := f v }) clock) hb
theorem mqDel {t kt et ty : TypeId} {x y : Operand} {b : Nat} {m : List (Int × α)} {kk : IntKind} {key : Int} {f : α → Value} {H : HL}
  (ht : P.underlying t = some (.map kt et)) (hk : P.underlying kt = some (.int kk)) (hx : ev? ρ x = some (.map (some b))) (hy : ev? ρ y = some (.int kk key))
  (hH : ∀ p ∈ H, p ∈ L.flatten) (hm : IsMq kk f m b H) : Prim P n R cx (.call ⟨.builtin .delete, #[x, y], #[t, kt]⟩) ty ρ L [H] (fun _ L' => ∃ H', L' = [H'] ∧ IsMq kk f (mdel m key) b H') := by
 obtain ⟨es, clock, rfl, hm, hbc, hbn⟩ := hm
 refine ⟨fun oo a w ho hty hf hs => ?_⟩
 have hb := hs.has (b, .map es clock) (hH _ (by simp))
 have hg := MapKept.run_getObj_map (P := P) hb
 have hik : MapKept.IsKey (.int kk) (.int kk key) := by simp [MapKept.IsKey]
 have hck := fun e => MapKept.run_checkKey (P := P) (w := w) (k := .int kk key) hk hik e 9999
 rcases find_spec (k' := kk) key es.toList m 0 hm with ⟨g1, g2, _, g3⟩ | ⟨j, v0, e, g1, g2, g3, g4, g5, _, g6⟩
 ·
  refine ⟨.tuple #[], _, { w with heap := w.heap.setIfInBounds b (.map es clock) }, ?_, ⟨_, rfl, es, clock, rfl, by rw [g3]; exact hm, hbc, hbn⟩, ?_⟩
  ·
   unfold execOp; rw [ho]
   simp [resolve, invoke, builtin, Builtin.delete_, hf.ev hx, hf.ev hy, run_underlying ht, hg, hck, MapKept.run_findKey hk g2, MapKept.run_setObj_map _ hb, Result.andThen]
  · simpa [ids] using St.setO w w.drawn b _ (.map es clock) hb
 ·
  refine ⟨.tuple #[], _, { w with heap := w.heap.setIfInBounds b (.map (es.eraseIdxIfInBounds (0 + j)) clock) }, ?_, ⟨_, rfl, es.eraseIdxIfInBounds (0 + j), clock, rfl, ?_, ?_, ?_⟩, ?_⟩
  ·
   unfold execOp; rw [ho]
   simp [resolve, invoke, builtin, Builtin.delete_, hf.ev hx, hf.ev hy, run_underlying ht, hg, hck, MapKept.run_findKey hk g2, MapKept.run_setObj_map _ hb, Result.andThen]
  ·
   unfold MapIs at hm ⊢
   rw [g6, map_eraseIdx, ← hm, Nat.zero_add, Array.toList_eraseIdxIfInBounds, map_eraseIdx]
  ·
   intro x hx
   rw [Array.toList_eraseIdxIfInBounds] at hx
   exact hbc x (List.mem_of_mem_eraseIdx hx)
  ·
   rw [Array.toList_eraseIdxIfInBounds, map_eraseIdx]
   exact hbn.sublist (List.eraseIdx_sublist _ _)
  · simpa [ids] using St.setO w w.drawn b _ (.map (es.eraseIdxIfInBounds (0 + j)) clock) hb
theorem run_bits {op : BinOp} {kk : IntKind} {a b r : Nat} (ha : a < 2 ^ kk.bits) (hb : b < 2 ^ kk.bits) (hr : (r : Int) = kk.wrap r)
  (ho : (op = .xor ∧ r = a ^^^ b) ∨ (op = .and ∧ r = a &&& b) ∨ (op = .or ∧ r = a ||| b)) (w : World) : (Op.intBits op kk a b).run P w = .ok (.int kk r) w := by
 have e1 : ∀ x : Nat, x < 2 ^ kk.bits → (BitVec.ofInt kk.bits (x : Int)).toNat = x := fun x hx => by
  rw [BitVec.ofInt_natCast, BitVec.toNat_ofNat, Nat.mod_eq_of_lt hx]
 rcases ho with ⟨rfl, rfl⟩ | ⟨rfl, rfl⟩ | ⟨rfl, rfl⟩
 all_goals
  simp only [Op.intBits, BitVec.toNat_xor, BitVec.toNat_and, BitVec.toNat_or, e1 a ha, e1 b hb]
  rw [← hr]
  rfl
theorem OpVal.bitsN {op : BinOp} {t t' ty : TypeId} {x y : Operand} {kk : IntKind} {i j : Int} {a b r : Nat} (hx : ev? ρ x = some (.int kk i)) (hy : ev? ρ y = some (.int kk j)) (hi : i = a) (hj : j = b)
  (ha : a < 2 ^ kk.bits) (hb : b < 2 ^ kk.bits) (hr : (r : Int) = kk.wrap r) (ho : (op = .xor ∧ r = a ^^^ b) ∨ (op = .and ∧ r = a &&& b) ∨ (op = .or ∧ r = a ||| b)) : OpVal P n R cx (.binOp op t x y t') ty ρ L (.int kk r) := by
 refine ⟨fun oo ac w hoo hty hf hs => ?_⟩
 subst hi hj
 have h := run_bits (P := P) ha hb hr ho w
 unfold execOp; rw [hoo]
 rcases ho with ⟨rfl, rfl⟩ | ⟨rfl, rfl⟩ | ⟨rfl, rfl⟩ <;> simp [hf.ev hx, hf.ev hy, eqGuard, binOp, h, Result.andThen]
theorem OpVal.xor32 {t t' ty : TypeId} {x y : Operand} {i j : Int} {a b : Nat} (hx : ev? ρ x = some (.int .u32 i)) (hy : ev? ρ y = some (.int .u32 j)) (ha : a < 2 ^ 32) (hb : b < 2 ^ 32) (hi : i = a := by rfl) (hj : j = b := by rfl) :
  OpVal P n R cx (.binOp .xor t x y t') ty ρ L (.int .u32 ((a ^^^ b : Nat) : Int)) := by
 have h := Nat.xor_lt_two_pow ha hb
 refine OpVal.bitsN hx hy hi hj ha hb ?_ (.inl ⟨rfl, rfl⟩)
 exact (u32_in _ (by omega)).symm
theorem OpVal.shrN {t t' ty : TypeId} {x y : Operand} {kk k2 : IntKind} {i j : Int} {a c : Nat} (hx : ev? ρ x = some (.int kk i)) (hy : ev? ρ y = some (.int k2 j)) (hi : i = a := by rfl) (hj : j = c := by rfl) (hc : c ≤ kk.bits := by decide) :
  OpVal P n R cx (.binOp .shr t x y t') ty ρ L (.int kk ((a / 2 ^ c : Nat) : Int)) := by
 refine ⟨fun oo ac w hoo hty hf hs => ?_⟩
 subst hi hj
 have hm : min c kk.bits = c := Nat.min_eq_left hc
 have hn : ¬ ((c : Int) < 0) := by omega
 have hd : (a : Int).fdiv (2 ^ c) = ((a / 2 ^ c : Nat) : Int) := by
  have e : (2 : Int) ^ c = ((2 ^ c : Nat) : Int) := by simp
  rw [e, Int.fdiv_eq_ediv_of_nonneg _ (Int.natCast_nonneg _)]
  rfl
 unfold execOp; rw [hoo]
 simp only [hf.ev hx, hf.ev hy, eqGuard, binOp, Op.shift, if_neg hn, Int.toNat_natCast, hm, hd]
 rfl
theorem OpVal.not32 {t ty : TypeId} {x : Operand} {i : Int} {a : Nat} (hx : ev? ρ x = some (.int .u32 i)) (ha : a < 2 ^ 32) (hi : i = a := by rfl) :
  OpVal P n R cx (.unOp .xor t x) ty ρ L (.int .u32 ((4294967295 ^^^ a : Nat) : Int)) := by
 refine ⟨fun oo ac w hoo hty hf hs => ?_⟩
 subst hi
 have h := run_bits (P := P) (op := .xor) (kk := .u32) (a := 4294967295) (b := a) (r := 4294967295 ^^^ a) (by decide) ha (u32_in _ (by have := Nat.xor_lt_two_pow (x := 4294967295) (n := 32) (by decide) ha; omega)).symm (.inl ⟨rfl, rfl⟩) w
 unfold execOp; rw [hoo]
 have hmx : IntKind.u32.max = ((4294967295 : Nat) : Int) := by decide
 simp [hf.ev hx, Op.unary, IntKind.signed, hmx]
 rw [show (4294967295 : Int) = ((4294967295 : Nat) : Int) from rfl, h]
 rfl
end
end Go.Sl
namespace Go.Proofs.YtfpghdcjdnifcaaGreat
open Go Go.Sl Go.IntWalk
set_option maxHeartbeats 4000000
set_option maxRecDepth 20000
set_option linter.unusedVariables false
theorem sgAll (l : List Value) : seg? l 0 l.length = some l := by rw [seg?_of _ _ _ (by omega)]; simp
theorem spAll {l vs : List Value} (h : vs.length = l.length) : splice? l 0 vs = some vs := by rw [splice?_of _ _ _ (by omega)]; simp [h]
theorem u32n {r : Nat} (h : r < 2 ^ 32) : IntKind.u32.wrap (r : Int) = (r : Int) := u32_in _ (by omega)
theorem u8n {r : Nat} (h : r < 256) : IntKind.u8.wrap (r : Int) = (r : Int) := u8_in _ (by omega)
theorem u8mod (x : Nat) : IntKind.u8.wrap (x : Int) = ((x % 256 : Nat) : Int) := by rw [IntKind.wrap_u8]; omega
theorem cstep_mul (x : Nat) : (x / 2 ^ 1) ^^^ (poly * (x &&& 1)) = cstep x := by
 rw [Nat.and_one_is_mod]
 unfold cstep
 rcases Nat.mod_two_eq_zero_or_one x with h | h <;> rw [h]
 · rw [if_neg (by decide), Nat.mul_zero, Nat.xor_zero]
 · rw [if_pos rfl, Nat.mul_one]
theorem csteps_snoc (k x : Nat) : csteps (k + 1) x = cstep (csteps k x) := by rw [csteps_add]; rfl
def trow (i : Nat) : List Value := (List.range i).map (fun c => Value.int .u32 (crow c : Int)) ++ List.replicate (256 - i) (.int .u32 0)
theorem trow_len {i : Nat} (h : i ≤ 256) : (trow i).length = 256 := by simp [trow]; omega
theorem trow_next {i : Nat} (h : i < 256) : splice? (trow i) (0 + i * 1) [.int .u32 (crow i : Int)] = some (trow (i + 1)) := by
 have hl := trow_len (Nat.le_of_lt h)
 rw [splice?_of _ _ _ (by simp [hl]; omega)]
 congr 1
 have e1 : (trow i).take (0 + i * 1) = (List.range i).map (fun c => Value.int .u32 (crow c : Int)) := by
  unfold trow
  rw [List.take_append_of_le_length (by simp)]
  rw [List.take_of_length_le (by simp)]
 have e2 : (trow i).drop (0 + i * 1 + 1) = List.replicate (256 - (i + 1)) (.int .u32 0) := by
  unfold trow
  rw [List.drop_append, List.drop_of_length_le (by simp), List.nil_append, List.drop_replicate]
  congr 1
  simp
  omega
 rw [e1, show [Value.int IntKind.u32 ↑(crow i)].length = 1 from rfl, e2]
 unfold trow
 rw [List.range_succ, List.map_append]
 rfl
theorem trow_at {i : Nat} (h : i < 256) : (trow 256)[0 + i * 1]? = some (.int .u32 (crow i : Int)) := by
 unfold trow
 rw [List.getElem?_append_left (by simp; omega)]
 simp [h]
theorem allOne_u32 : ∀ l : List Value, (∀ v ∈ l, ∃ x, v = Value.int .u32 x) → allOne l = true := fun l h => allOne_of fun v hv => by obtain ⟨x, rfl⟩ := h v hv; rfl
theorem trow_one : allOne (trow 256) = true := allOne_u32 _ fun v hv => by
 simp only [trow, Nat.sub_self, List.replicate_zero, List.append_nil, List.mem_map] at hv
 obtain ⟨c, -, rfl⟩ := hv
 exact ⟨_, rfl⟩
theorem trow_zero : ZeroOf Tryz.prog 392 (.agg (trow 0).toArray) := fun w => by
 have := Tryz.zeroValue392 w
 rw [this]
 rfl
theorem table_spec : Ctr Tryz.prog 278 [] [] [] (fun v L' => v = .agg (trow 256).toArray ∧ L' = []) := by
 have hnew : ∀ {n : Nat} {R : HL} {cx : Cx} {ty : Nat} {ρ : Env} {L : List HL}, NewOf Tryz.prog n R cx (.alloc 392) ty ρ L (.cells (trow 0).toArray 392 (0, 0)) (fun b => .pointer (some ⟨b, 0, none⟩)) := NewOf.alloc trow_zero rfl
 have l256 := trow_len (i := 256) (Nat.le_refl _)
 refine Ctr.enter (n := 25) [.cell 0 392] [] Tryz.func278 rfl rfl rfl (lb rfl) Tryz.call278 trivial ?_
 intro cx fin fin0
 refine aG ?_
 refine aW (hnew) ?_
 intro _
 refine aG ?_
 rename_i b0
 refine aW (hnew) ?_
 intro _
 refine aG ?_
 rename_i b1
 refine aLp (fun k ρ1 L1 => ∃ i : Nat, i ≤ 256 ∧ k = 256 - i ∧ ρ1 = [(5, .int .i64 (i : Int)), (1, .pointer (some ⟨b1, 0, none⟩)), (0, .pointer (some ⟨b0, 0, none⟩))] ∧ L1 = [[(b1, .cells (trow i).toArray 392 (0, 0))], [(b0, .cells (trow 0).toArray 392 (0, 0))]]) (o := ⟨0, by decide, rfl, rfl, rfl⟩) (h := ?_)
 rintro k ρ1 L1 ⟨i, hi, rfl, rfl, rfl⟩
 refine aG ?_
 by_cases hlt : i < 256
 ·
  have hz1 : (i : Int) < 256 := by omega
  repeat (first | refine gh hz1 ?_ | refine gN fun _ => ?_ | refine gB fun _ => ?_ | fail)
  refine aV (OpVal.conv tab_ok rfl rfl rfl (u32n (by omega))) ?_
  refine aLp (fun k ρ1 L1 => ∃ j : Nat, j ≤ 8 ∧ k = 8 - j ∧ ρ1 = [(10, .int .i64 (j : Int)), (3, .int .u32 (csteps j i : Int)), (2, .int .i64 (i : Int)), (5, .int .i64 (i : Int)), (1, .pointer (some ⟨b1, 0, none⟩)), (0, .pointer (some ⟨b0, 0, none⟩))] ∧ L1 = [[(b1, .cells (trow i).toArray 392 (0, 0))], [(b0, .cells (trow 0).toArray 392 (0, 0))]]) (o := ⟨0, by decide, rfl, rfl, rfl⟩) (h := ?_)
  rintro k ρ1 L1 ⟨j, hj, rfl, rfl, rfl⟩
  refine aG ?_
  by_cases hlt2 : j < 8
  ·
   have hz2 : (j : Int) < 8 := by omega
   have hb := csteps_lt j (x := i) (by omega)
   have hm : csteps j i &&& 1 = csteps j i % 2 := Nat.and_one_is_mod _
   have hc := cstep_mul (csteps j i)
   rw [← csteps_snoc] at hc
   generalize csteps j i = x at *
   repeat (first | refine gh hz2 ?_ | refine gN fun _ => ?_ | refine gB fun _ => ?_ | fail)
   refine aV (OpVal.bitsN (a := x) (b := 1) (r := x &&& 1) rfl rfl rfl rfl hb (by decide) (u32n (by omega)).symm (.inr (.inl ⟨rfl, rfl⟩))) ?_
   refine aV (OpVal.shrN (a := x) (c := 1) rfl rfl) ?_
   refine aV (OpVal.mul (r := ((poly * (x &&& 1) : Nat) : Int)) rfl rfl (by rw [← u32n (r := poly * (x &&& 1)) (by have := poly_lt; rcases Nat.mod_two_eq_zero_or_one x with h | h <;> rw [hm, h] <;> omega)]; rfl)) ?_
   refine aV (OpVal.xor32 (a := x / 2 ^ 1) (b := poly * (x &&& 1)) rfl rfl (by omega) (by have := poly_lt; rcases Nat.mod_two_eq_zero_or_one x with h | h <;> rw [hm, h] <;> omega)) ?_
   rw [hc]
   repeat (first | refine gh hz2 ?_ | refine gN fun _ => ?_ | refine gB fun _ => ?_ | fail)
   refine aR (o := ⟨8 - (j + 1), by omega, j + 1, by omega, rfl, rfl, rfl⟩)
  ·
   obtain rfl : j = 8 := by omega
   repeat (first | refine gx ?_ | refine gN fun _ => ?_ | refine gB fun _ => ?_ | fail)
   refine aV (OpVal.indexAr (j := i) rfl rfl Tryz.underlying392 ty_308.2 rfl hlt) ?_
   refine W.store tab_ok rfl Upd.here rfl rfl rfl rfl rfl (trow_next hlt) (aG ?_)
   repeat (first | refine gx ?_ | refine gN fun _ => ?_ | refine gB fun _ => ?_ | fail)
   refine aR (o := ⟨256 - (i + 1), by omega, i + 1, by omega, rfl, rfl, rfl⟩)
 ·
  obtain rfl : i = 256 := by omega
  refine aF ?_
  refine aV (OpVal.loadN ty_392.1 ty_392.2 rfl (at_own 0 rfl) (by rw [← l256]; exact sgAll _)) ?_
  refine W.store tab_ok rfl (Upd.there Upd.here) rfl rfl rfl l256 trow_one (spAll (by rw [trow_len (i := 0) (by decide)]; exact l256)) (aG ?_)
  refine W.ret (fin _ _ (FinOk.first 0 (ResOk.cellN (us := trow 256) ty_392.1 ty_392.2 rfl (at_own 1 rfl) (by rw [← l256]; exact sgAll _) .nil) rfl ?_))
  exact ⟨rfl, rfl⟩
def crcI (bs : List Int) : Nat := crcNat (bs.map Int.toNat)
theorem nats_ok {bs : List Int} (h : u8ok bs) : ∀ c ∈ bs.map Int.toNat, c < 256 := fun c hc => by
 obtain ⟨x, hx, rfl⟩ := List.mem_map.1 hc
 have := h x hx
 omega
def crcAt (bs : List Int) (j : Nat) : Nat := crcFrom 4294967295 ((bs.take j).map Int.toNat)
theorem crcAt_lt {bs : List Int} (h : u8ok bs) (j : Nat) : crcAt bs j < 2 ^ 32 := crcFrom_lt (by decide) (nats_ok fun x hx => h x (List.mem_of_mem_take hx))
theorem crcAt_next {bs : List Int} {j : Nat} (hj : j < bs.length) : crcAt bs (j + 1) = csteps 8 (crcAt bs j ^^^ bs[j].toNat) := by
 unfold crcAt
 rw [List.take_add_one, List.getElem?_eq_getElem hj, Option.toList_some, List.map_append, crcFrom_append]
 rfl
theorem crcAt_all (bs : List Int) : crcI bs = 4294967295 - crcAt bs bs.length := by unfold crcI crcNat crcAt; rw [List.take_length]
theorem More_spec (bs : List Int) (hu : u8ok bs) (a : Option Addr) (cap : Nat) (ro : HL) (hro : RoSl 1 (u8s bs) a bs.length ro) (hl : bs.length ≤ 1000000) :
  Ctr Tryz.prog 249 [.int .u32 0, .slice a bs.length cap] [] ro (fun v L' => v = .int .u32 (crcI bs : Int) ∧ L' = []) := by
 have hnew : ∀ {n : Nat} {R : HL} {cx : Cx} {ty : Nat} {ρ : Env} {L : List HL}, NewOf Tryz.prog n R cx (.alloc 392) ty ρ L (.cells (trow 0).toArray 392 (0, 0)) (fun b => .pointer (some ⟨b, 0, none⟩)) := NewOf.alloc trow_zero rfl
 have l256 := trow_len (i := 256) (Nat.le_refl _)
 refine Ctr.enter (n := 29) [.tmp 4] [(0, _), (1, _)] Tryz.func249 rfl rfl rfl (lb rfl) Tryz.call249 ⟨rfl, rfl, trivial⟩ ?_
 intro cx fin fin0
 refine aG ?_
 refine aC (o := table_spec) (h := ?_)
 rintro _ _ ⟨rfl, rfl⟩
 refine aG ?_
 refine aW (hnew) ?_
 intro _
 refine aG ?_
 rename_i b5
 refine aG ?_
 refine W.store tab_ok rfl Upd.here rfl rfl rfl l256 trow_one (spAll (by rw [trow_len (i := 0) (by decide)]; exact l256)) (aG ?_)
 refine aV (OpVal.not32 (a := 0) rfl (by decide)) ?_
 refine aLp (fun k ρ1 L1 => ∃ j : Nat, j ≤ bs.length ∧ k = bs.length - j ∧ ρ1 = [(13, .int .i64 (j : Int)), (12, .int .i64 (bs.length : Int)), (11, .slice a bs.length cap), (5, .pointer (some ⟨b5, 0, none⟩)), (0, .int .u32 (crcAt bs j : Int))] ∧ L1 = [[(b5, .cells (trow 256).toArray 392 (0, 0))]]) (o := ⟨0, Nat.zero_le _, rfl, rfl, rfl⟩) (h := ?_)
 rintro k ρ1 L1 ⟨j, hj, rfl, rfl, rfl⟩
 refine aG ?_
 by_cases hlt : j < bs.length
 ·
  have hz : (j : Int) < (bs.length : Int) := by omega
  have hb := crcAt_lt hu j
  have hnx := crcAt_next hlt
  have huj := hu _ (List.getElem_mem hlt)
  obtain ⟨bx, ox, lx, ex, frx, rfl, rfl, -, hld⟩ := RoSl.at (f := fun x : Int => [Value.int .u8 x]) (m := 1) (fun _ => rfl) hro hlt
  have l0 : lx[ox + j * 1]? = some (.int .u8 bs[j]) := hld 0 (by decide)
  generalize hcj : bs[j] = c at *
  obtain ⟨c, rfl⟩ : ∃ d : Nat, c = (d : Int) := ⟨c.toNat, by omega⟩
  have hcb := crc_byte (crcAt bs j) c (by omega)
  rw [Int.toNat_natCast] at hnx
  rw [← hnx] at hcb
  generalize crcAt bs j = x at *
  have hxc : (x % 256) ^^^ c < 256 := Nat.xor_lt_two_pow (n := 8) (Nat.mod_lt _ (by decide)) (by omega)
  repeat (first | refine gh hz ?_ | refine gN fun _ => ?_ | refine gB fun _ => ?_ | fail)
  refine aV (OpVal.ixI tab_ok rfl rfl rfl rfl rfl hlt) ?_
  refine aV (OpVal.load tab_ok rfl (show At _ _ bx (.cells lx.toArray ex frx) from .inr (by simp)) l0) ?_
  refine aV (OpVal.shrN (a := x) (c := 8) rfl rfl) ?_
  refine aV (OpVal.conv tab_ok rfl rfl rfl (u8mod x)) ?_
  refine aV (OpVal.bitsN (a := x % 256) (b := c) (r := (x % 256) ^^^ c) rfl rfl rfl rfl (Nat.mod_lt _ (by decide)) (show c < 256 by omega) (u8n hxc).symm (.inl ⟨rfl, rfl⟩)) ?_
  refine aV (OpVal.indexAr (j := (x % 256) ^^^ c) rfl rfl Tryz.underlying392 ty_308.2 rfl hxc) ?_
  refine aV (OpVal.load1 ty_308.1 rfl (at_own 0 rfl) (trow_at hxc)) ?_
  refine aV (OpVal.xor32 (a := x / 2 ^ 8) (b := crow ((x % 256) ^^^ c)) rfl rfl (by omega) (csteps_lt 8 (by omega))) ?_
  rw [show x / 2 ^ 8 ^^^ crow (x % 256 ^^^ c) = crcAt bs (j + 1) from hcb.symm]
  repeat (first | refine gh hz ?_ | refine gN fun _ => ?_ | refine gB fun _ => ?_ | fail)
  refine aR (o := ⟨bs.length - (j + 1), by omega, j + 1, by omega, rfl, rfl, rfl⟩)
 ·
  obtain rfl : j = bs.length := by omega
  repeat (first | refine gx ?_ | refine gN fun _ => ?_ | refine gB fun _ => ?_ | fail)
  refine aV (OpVal.not32 (a := crcAt bs bs.length) rfl (crcAt_lt hu _)) ?_
  rw [xor_all (crcAt_lt hu _), ← crcAt_all]
  repeat (first | refine gx ?_ | refine gN fun _ => ?_ | refine gB fun _ => ?_ | fail)
  refine W.ret (fin _ _ (FinOk.mk' ([]) (.tmp rfl .nil) (by repeat (first | exact Sel.nil | (apply Sel.cons; (repeat (first | exact Pick.here | apply Pick.there))))) rfl ?_))
  exact ⟨rfl, rfl⟩
end Go.Proofs.YtfpghdcjdnifcaaGreat
namespace Go.Proofs.YtfpghdcjdnifcaaGreat
open Go Go.Sl Go.IntWalk
set_option maxHeartbeats 4000000
set_option maxRecDepth 20000
set_option linter.unusedVariables false
def chk (x : Nat) : Nat → List Int
 | 0 => []
 | k + 1 => chk x k ++ [((x / 256 ^ k % 256 : Nat) : Int)]
theorem chk_len (x : Nat) : ∀ k, (chk x k).length = k
 | 0 => rfl
 | k + 1 => by simp [chk, chk_len x k]
theorem chk_ok (x : Nat) : ∀ k, u8ok (chk x k)
 | 0 => fun b hb => by cases hb
 | k + 1 => fun b hb => by
  rcases List.mem_append.1 hb with h | h
  · exact chk_ok x k b h
  · rw [List.mem_singleton.1 h]; omega
def sealB (bs : List Int) : List Int := bs ++ chk (crcI bs) 4
theorem sealB_len (bs : List Int) : (sealB bs).length = bs.length + 4 := by simp [sealB, chk_len]
theorem sealB_ok {bs : List Int} (h : u8ok bs) : u8ok (sealB bs) := fun b hb => by
 rcases List.mem_append.1 hb with h1 | h1
 · exact h b h1
 · exact chk_ok _ _ b h1
theorem CSum_spec (bs : List Int) (hu : u8ok bs) (a : Option Addr) (cap : Nat) (ro : HL) (hro : RoSl 1 (u8s bs) a bs.length ro) (hl : bs.length ≤ 1000000) :
  Ctr Tryz.prog 208 [.slice a bs.length cap] [] ro (fun v L' => v = .int .u32 (crcI bs : Int) ∧ L' = []) := by
 have hM := More_spec bs hu a cap ro hro hl
 refine Ctr.enter (n := 5) [.tmp 2] [(0, _)] Tryz.func208 rfl rfl rfl (lb rfl) Tryz.call208 ⟨rfl, trivial⟩ ?_
 intro cx fin fin0
 refine aG ?_
 refine aC (o := hM) (h := ?_)
 rintro _ _ ⟨rfl, rfl⟩
 refine aG ?_
 refine W.ret (fin _ _ (FinOk.first 0 (.tmp rfl .nil) rfl ?_))
 exact ⟨rfl, rfl⟩
theorem crcI_lt {bs : List Int} (h : u8ok bs) : crcI bs < 2 ^ 32 := by rw [crcAt_all]; omega
theorem Put_spec (bs : List Int) (hu : u8ok bs) (a : Option Addr) (cap : Nat) (ro : HL) (hro : RoSl 1 (u8s bs) a bs.length ro) (hl : bs.length ≤ 100000) :
  Ctr Tryz.prog 140 [.slice a bs.length cap] [] ro (fun v L' => ∃ a' cap' H, v = .slice a' (sealB bs).length cap' ∧ L' = [H] ∧ Own 1 5 (u8s (sealB bs)) a' (sealB bs).length cap' H) := by
 have hS := CSum_spec bs hu a cap ro hro (by omega)
 have hC := BClone_spec bs (by omega) a cap ro hro
 have hlt := crcI_lt hu
 unfold sealB
 generalize crcI bs = x at *
 refine Ctr.enter (n := 20) [.tmp 2] [(0, _)] Tryz.func140 rfl rfl rfl (lb rfl) Tryz.call140 ⟨rfl, trivial⟩ ?_
 intro cx fin fin0
 refine aG ?_
 refine aC (o := hS) (h := ?_)
 rintro _ _ ⟨rfl, rfl⟩
 refine aG ?_
 refine aC (o := hC) (h := ?_)
 rintro _ _ ⟨a1, c1, H1, rfl, rfl, how⟩
 refine aG ?_
 refine aLp (fun k ρ1 L1 => ∃ (j y : Nat) (a1 : Option Addr) (c1 : Nat) (H1 : HL), j ≤ 4 ∧ k = 4 - j ∧ y = x / 256 ^ j ∧ Own 1 5 (u8s (bs ++ chk x j)) a1 (bs.length + j) c1 H1 ∧ ρ1 = [(9, .int .i64 (j : Int)), (4, .slice a1 (bs.length + j) c1), (3, .int .u32 (y : Int))] ∧ L1 = [H1]) (o := ⟨0, x, a1, c1, H1, by decide, rfl, by simp, by simpa [chk] using how, rfl, rfl⟩) (h := ?_)
 rintro k ρ1 L1 ⟨j, y, a1, c1, H1, hj, rfl, rfl, how, rfl, rfl⟩
 refine aG ?_
 by_cases hlt2 : j < 4
 ·
  have hz : (j : Int) < 4 := by omega
  repeat (first | refine gh hz ?_ | refine gN fun _ => ?_ | refine gB fun _ => ?_ | fail)
  refine aV (OpVal.conv tab_ok rfl rfl rfl (u8mod (x / 256 ^ j))) ?_
  refine aSl (ps := [_]) ?_
  intro bt
  refine aG ?_
  refine aAp (how) ?_
  rintro _ _ ⟨_, _, _, rfl, rfl, ho⟩
  refine aG ?_
  refine aV (OpVal.shrN (a := x / 256 ^ j) (c := 8) rfl rfl) ?_
  have e1 : x / 256 ^ j / 2 ^ 8 = x / 256 ^ (j + 1) := by rw [Nat.div_div_eq_div_mul, Nat.pow_succ 256 j]
  rw [e1]
  have e2 : u8s (bs ++ chk x j) ++ [.int .u8 ((x / 256 ^ j % 256 : Nat) : Int)] = u8s (bs ++ chk x (j + 1)) := by
   rw [show chk x (j + 1) = chk x j ++ [((x / 256 ^ j % 256 : Nat) : Int)] from rfl, ← List.append_assoc, u8s_append (bs ++ chk x j)]
   rfl
  rw [e2] at ho
  repeat (first | refine gh hz ?_ | refine gN fun _ => ?_ | refine gB fun _ => ?_ | fail)
  refine aR (o := ⟨4 - (j + 1), by omega, j + 1, _, _, _, _, by omega, rfl, rfl, ho, rfl, rfl⟩)
 ·
  obtain rfl : j = 4 := by omega
  repeat (first | refine gx ?_ | refine gN fun _ => ?_ | refine gB fun _ => ?_ | fail)
  refine W.ret (fin _ _ (FinOk.first 1 (.tmp rfl .nil) rfl ?_))
  exact ⟨_, _, _, by rw [List.length_append, chk_len]; rfl, rfl, by rw [List.length_append, chk_len]; exact how⟩
theorem Take_spec (bs : List Int) (hu : u8ok bs) (h4 : 4 ≤ bs.length) (a : Option Addr) (cap : Nat) (hcap : bs.length ≤ cap) (ro : HL) (hro : RoSl 1 (u8s bs) a bs.length ro) (hl : bs.length ≤ 100000) :
  Ctr Tryz.prog 238 [.slice a bs.length cap] [] ro (fun v L' => (sealB (bs.take (bs.length - 4)) ≠ bs ∧ v = .tuple #[.slice none 0 0, .int .i64 9] ∧ L' = []) ∨
   (sealB (bs.take (bs.length - 4)) = bs ∧ ∃ a' cap' H, v = .tuple #[.slice a' (bs.length - 4) cap', .int .i64 0] ∧ L' = [H] ∧ Own 1 5 (u8s (bs.take (bs.length - 4))) a' (bs.length - 4) cap' H)) := by
 have hro2 : RoSl 1 (u8s (bs.take (bs.length - 4))) a (bs.length - 4) ro := RoSl.take (f := fun x => [Value.int .u8 x]) (fun _ => rfl) hro _ (by omega)
 have hl2 : (bs.take (bs.length - 4)).length = bs.length - 4 := by rw [List.length_take]; omega
 have hu2 : u8ok (bs.take (bs.length - 4)) := fun x hx => hu x (List.mem_of_mem_take hx)
 have hP := Put_spec (bs.take (bs.length - 4)) hu2 a cap ro (by rw [hl2]; exact hro2) (by omega)
 have hC := BClone_spec (bs.take (bs.length - 4)) (by omega) a cap ro (by rw [hl2]; exact hro2)
 rw [hl2] at hP hC
 have hE := fun b cb r2 h2 => BEqual_spec (sealB (bs.take (bs.length - 4))) bs (sealB_ok hu2) hu b cb r2 h2 a cap ro hro
 have hn : (bs.length : Int) - 4 = ((bs.length - 4 : Nat) : Int) := by omega
 generalize bs.take (bs.length - 4) = cs at *
 refine Ctr.enter (n := 21) [.tmp 2, .tmp 3] [(0, _)] Tryz.func238 rfl rfl rfl (lb rfl) Tryz.call238 ⟨rfl, trivial⟩ ?_
 intro cx fin fin0
 refine aG ?_
 refine aV (OpVal.sub rfl rfl (i64_in _ (by omega))) ?_
 rw [hn]
 have hz : ¬ ((bs.length - 4 : Nat) : Int) < 0 := by omega
 repeat (first | refine gh hz ?_ | refine gN fun _ => ?_ | refine gB fun _ => ?_ | fail)
 refine aV (OpVal.front tab_ok rfl rfl rfl rfl rfl (by omega)) ?_
 refine aC (o := hP) (h := ?_)
 rintro _ _ ⟨a1, c1, H1, rfl, rfl, ho⟩
 refine aG ?_
 refine aC (o := hE a1 c1 H1 (Own.roSl ho)) (h := ?_) (hro := RoIn.append (RoIn.own 0 rfl) (RoIn.all (fun q hq => hq)))
 rintro _ _ ⟨rfl, rfl⟩
 refine aG ?_
 by_cases hq : sealB cs = bs
 ·
  repeat (first | refine gh hq ?_ | refine gN fun _ => ?_ | refine gB fun _ => ?_ | fail)
  refine aV (OpVal.front tab_ok rfl rfl rfl rfl rfl (by omega)) ?_
  refine aC (o := hC) (h := ?_)
  rintro _ _ ⟨a2, c2, H2, rfl, rfl, ho2⟩
  refine aG ?_
  repeat (first | refine gx ?_ | refine gN fun _ => ?_ | refine gB fun _ => ?_ | fail)
  refine W.ret (fin _ _ (FinOk.first 1 (.tmp rfl (.tmp rfl .nil)) rfl ?_))
  exact .inr ⟨hq, _, _, _, rfl, rfl, ho2⟩
 ·
  repeat (first | refine gh hq ?_ | refine gN fun _ => ?_ | refine gB fun _ => ?_ | fail)
  refine W.order [] rfl ?_
  refine W.ret (fin _ _ (FinOk.first 0 (.tmp rfl (.tmp rfl .nil)) rfl ?_))
  exact .inl ⟨hq, rfl, rfl⟩
theorem VZero_spec : Ctr Tryz.prog 239 [] [] [] (fun v L' => ∃ b, v = .slice (some ⟨b, 0, none⟩) 16 16 ∧ L' = [[(b, .cells (u8s (List.replicate 16 0)).toArray 5 (0, 0))]]) := by
 have e : repL 16 [Value.int .u8 0] = u8s (List.replicate 16 0) := rfl
 refine Ctr.enter (n := 2) [.tmp 0] [] Tryz.func239 rfl rfl rfl (lb rfl) Tryz.call239 trivial ?_
 intro cx fin fin0
 refine aG ?_
 refine aW (NewOf.mks (bytes := 1) (len := 16) (cap := 16) tab_ok rfl rfl rfl rfl rfl rfl rfl rfl rfl (Nat.le_refl _) (by decide) (by decide)) ?_
 intro b1
 refine aG ?_
 rw [e]
 refine W.ret (fin _ _ (FinOk.first 1 (.tmp rfl .nil) rfl ?_))
 exact ⟨_, rfl, rfl⟩
theorem Seal_spec (bs : List Int) (hu : u8ok bs) (a : Option Addr) (cap : Nat) (ro : HL) (hro : RoSl 1 (u8s bs) a bs.length ro) :
  Ctr Tryz.prog 232 [.slice a bs.length cap] [] ro (fun v L' => (bs.length ≠ 16 ∧ v = .tuple #[.slice none 0 0, .int .i64 2] ∧ L' = []) ∨
   (bs.length = 16 ∧ ∃ a' cap' H, v = .tuple #[.slice a' 20 cap', .int .i64 0] ∧ L' = [H] ∧ Own 1 5 (u8s (sealB bs)) a' 20 cap' H)) := by
 by_cases h : bs.length = 16
 ·
  have hP := Put_spec bs hu a cap ro hro (by omega)
  refine Ctr.enter (n := 9) [.tmp 2, .tmp 3] [(0, _)] Tryz.func232 rfl rfl rfl (lb rfl) Tryz.call232 ⟨rfl, trivial⟩ ?_
  intro cx fin fin0
  refine aG ?_
  repeat (first | refine gh h ?_ | refine gN fun _ => ?_ | refine gB fun _ => ?_ | fail)
  refine aC (o := hP) (h := ?_)
  rintro _ _ ⟨a1, c1, H1, rfl, rfl, ho⟩
  refine aG ?_
  repeat (first | refine gx ?_ | refine gN fun _ => ?_ | refine gB fun _ => ?_ | fail)
  refine W.ret (fin _ _ (FinOk.first 1 (.tmp rfl (.tmp rfl .nil)) rfl ?_))
  exact .inr ⟨h, _, _, _, by rw [sealB_len, h]; rfl, rfl, by rw [sealB_len, h] at ho; exact ho⟩
 ·
  have hz : ¬ (bs.length : Int) = 16 := by omega
  refine Ctr.enter (n := 9) [.tmp 2, .tmp 3] [(0, _)] Tryz.func232 rfl rfl rfl (lb rfl) Tryz.call232 ⟨rfl, trivial⟩ ?_
  intro cx fin fin0
  refine aG ?_
  repeat (first | refine gh hz ?_ | refine gN fun _ => ?_ | refine gB fun _ => ?_ | fail)
  refine W.ret (fin _ _ (FinOk.first 0 (.tmp rfl (.tmp rfl .nil)) rfl ?_))
  exact .inl ⟨h, rfl, rfl⟩
def cOpen (c : List Int) : List Int × Int := if c.length ≠ 20 then ([], 2) else if sealB (c.take 16) = c then (c.take 16, 0) else ([], 9)
theorem Open_spec (c : List Int) (hu : u8ok c) (a : Option Addr) (cap : Nat) (hcap : c.length ≤ cap) (ro : HL) (hro : RoSl 1 (u8s c) a c.length ro) (h20 : c.length = 20) :
  Ctr Tryz.prog 184 [.slice a c.length cap] [] ro (fun v L' => ∃ a' cap' H, v = .tuple #[.slice a' (cOpen c).1.length cap', .int .i64 (cOpen c).2] ∧ L' = [H] ∧ Own 1 5 (u8s (cOpen c).1) a' (cOpen c).1.length cap' H) := by
 have hT := Take_spec c hu (by omega) a cap hcap ro hro (by omega)
 rw [h20] at hT ⊢
 have hl : (c.take 16).length = 16 := by rw [List.length_take]; omega
 unfold cOpen
 rw [if_neg (by omega)]
 by_cases hq : sealB (c.take 16) = c
 ·
  rw [if_pos hq]
  refine Ctr.enter (n := 11) [.tmp 2, .tmp 3] [(0, _)] Tryz.func184 rfl rfl rfl (lb rfl) Tryz.call184 ⟨rfl, trivial⟩ ?_
  intro cx fin fin0
  refine aG ?_
  repeat (first | refine gx ?_ | refine gN fun _ => ?_ | refine gB fun _ => ?_ | fail)
  refine aC (o := hT) (h := ?_)
  rintro _ _ (⟨hn, -, -⟩ | ⟨-, a1, c1, H1, rfl, rfl, ho⟩)
  · exact absurd hq hn
  refine aG ?_
  repeat (first | refine gx ?_ | refine gN fun _ => ?_ | refine gB fun _ => ?_ | fail)
  refine W.ret (fin _ _ (FinOk.first 1 (.tmp rfl (.tmp rfl .nil)) rfl ?_))
  exact ⟨_, _, _, by rw [hl]; rfl, rfl, by rw [hl]; exact ho⟩
 ·
  rw [if_neg hq]
  refine Ctr.enter (n := 11) [.tmp 2, .tmp 3] [(0, _)] Tryz.func184 rfl rfl rfl (lb rfl) Tryz.call184 ⟨rfl, trivial⟩ ?_
  intro cx fin fin0
  refine aG ?_
  repeat (first | refine gx ?_ | refine gN fun _ => ?_ | refine gB fun _ => ?_ | fail)
  refine aC (o := hT) (h := ?_)
  rintro _ _ (⟨-, rfl, rfl⟩ | ⟨hn, -⟩)
  ·
   refine aG ?_
   repeat (first | refine gx ?_ | refine gN fun _ => ?_ | refine gB fun _ => ?_ | fail)
   refine W.nilChunk ?_
   refine W.ret (fin _ _ (FinOk.first 1 (.tmp rfl (.tmp rfl .nil)) rfl ?_))
   exact ⟨_, _, _, rfl, rfl, Own.nil 1 _⟩
  · exact absurd hn hq
end Go.Proofs.YtfpghdcjdnifcaaGreat
namespace Go.Proofs
open Go.Shelf
def Tryz.lays189_ren : Go.Shelf.Ren := ⟨fun | 189 => 272 | 125 => 309 | 257 => 308 | 128 => 343 | 129 => 344 | 294 => 334 | 295 => 335 | 296 => 336 | 297 => 337 | 298 => 338 | 299 => 339 | 216 => 340 | 300 => 341 | 301 => 342 | 328 => 357 | 329 => 358 | 330 => 359 | 331 => 360 | 332 => 361 | 215 => 362 | 343 => 367 | n => n, fun | 28 => 83 | 3 => 3 | 46 => 310 | 0 => 0 | 51 => 308 | 53 => 55 | 4 => 4 | 183 => 436 | 182 => 435 | 131 => 354 | 5 => 5 | 9 => 9 | 218 => 459 | 222 => 462 | 228 => 469 | 229 => 197 | n => n, fun | n => n⟩
theorem Tryz.lays189 : Go.Proofs.Lays.n189 Tryz.prog Tryz.lays189_ren := {
 mixed := by kernel_rfl
 f125 := Tryz.func309.trans (congrArg some (by kernel_rfl))
 f128 := Tryz.func343.trans (congrArg some (by kernel_rfl))
 f129 := Tryz.func344.trans (congrArg some (by kernel_rfl))
 f189 := Tryz.func272.trans (congrArg some (by kernel_rfl))
 f215 := Tryz.func362.trans (congrArg some (by kernel_rfl))
 f216 := Tryz.func340.trans (congrArg some (by kernel_rfl))
 f257 := Tryz.func308.trans (congrArg some (by kernel_rfl))
 f294 := Tryz.func334.trans (congrArg some (by kernel_rfl))
 f295 := Tryz.func335.trans (congrArg some (by kernel_rfl))
 f296 := Tryz.func336.trans (congrArg some (by kernel_rfl))
 f297 := Tryz.func337.trans (congrArg some (by kernel_rfl))
 f298 := Tryz.func338.trans (congrArg some (by kernel_rfl))
 f299 := Tryz.func339.trans (congrArg some (by kernel_rfl))
 f300 := Tryz.func341.trans (congrArg some (by kernel_rfl))
 f301 := Tryz.func342.trans (congrArg some (by kernel_rfl))
 f328 := Tryz.func357.trans (congrArg some (by kernel_rfl))
 f329 := Tryz.func358.trans (congrArg some (by kernel_rfl))
 f330 := Tryz.func359.trans (congrArg some (by kernel_rfl))
 f331 := Tryz.func360.trans (congrArg some (by kernel_rfl))
 f332 := Tryz.func361.trans (congrArg some (by kernel_rfl))
 f343 := Tryz.func367.trans (congrArg some (by kernel_rfl))
 t0 := Tryz.underlying0
 a0 := Tryz.isAgg0
 z0 := Tryz.sizeOf0
 v0 := Tryz.zeroValue0
 t3 := Tryz.underlying3
 a3 := Tryz.isAgg3
 z3 := Tryz.sizeOf3
 v3 := Tryz.zeroValue3
 t4 := Tryz.underlying4
 a4 := Tryz.isAgg4
 z4 := Tryz.sizeOf4
 v4 := Tryz.zeroValue4
 t5 := Tryz.underlying5
 a5 := Tryz.isAgg5
 z5 := Tryz.sizeOf5
 v5 := Tryz.zeroValue5
 t9 := Tryz.underlying9
 a9 := Tryz.isAgg9
 z9 := Tryz.sizeOf9
 v9 := Tryz.zeroValue9
 t28 := Tryz.underlying83
 a28 := Tryz.isAgg83
 z28 := Tryz.sizeOf83
 v28 := Tryz.zeroValue83
 t46 := Tryz.underlying310
 a46 := Tryz.isAgg310
 z46 := Tryz.sizeOf310
 v46 := Tryz.zeroValue310
 t51 := Tryz.underlying308
 a51 := Tryz.isAgg308
 z51 := Tryz.sizeOf308
 v51 := Tryz.zeroValue308
 t53 := Tryz.underlying55
 a53 := Tryz.isAgg55
 z53 := Tryz.sizeOf55
 v53 := Tryz.zeroValue55
 t131 := Tryz.underlying354
 a131 := Tryz.isAgg354
 z131 := Tryz.sizeOf354
 v131 := Tryz.zeroValue354
 t182 := Tryz.underlying435
 a182 := Tryz.isAgg435
 z182 := Tryz.sizeOf435
 v182 := Tryz.zeroValue435
 t183 := Tryz.underlying436
 a183 := Tryz.isAgg436
 z183 := Tryz.sizeOf436
 v183 := Tryz.zeroValue436
 t218 := Tryz.underlying459
 a218 := Tryz.isAgg459
 z218 := Tryz.sizeOf459
 v218 := Tryz.zeroValue459
 t222 := Tryz.underlying462
 a222 := Tryz.isAgg462
 z222 := Tryz.sizeOf462
 v222 := Tryz.zeroValue462
 t228 := Tryz.underlying469
 a228 := Tryz.isAgg469
 z228 := Tryz.sizeOf469
 v228 := Tryz.zeroValue469
 t229 := Tryz.underlying197
 a229 := Tryz.isAgg197
 z229 := Tryz.sizeOf197
 v229 := Tryz.zeroValue197 }
open Go.Sort Go.RowKit in
theorem Tryz.slices_Sort_int (blk off cap : Nat) (zs : List Int) (w : World) (hH : Holds (Value.int .i64) w blk off zs.toArray) (hblk : blk < w.heap.size) (hsz : zs.length < 4611686018427387904) :
  Calls Tryz.prog 272 #[.slice (some ⟨blk, off, none⟩) zs.length cap] w fun e w' =>
   e = .returned (.tuple #[]) ∧ ∃ n os, w' = grow (putRow (Value.int .i64) (Sort.ahead w n) blk off (zs.mergeSort fun x y => decide (x ≤ y)).toArray) os := Any.slices_Sort_int Tryz.lays189 blk off cap zs w hH hblk hsz
open Go.RowKit Go.Sort in
theorem Tryz.slices_Sort_int_none (p : Option Addr) (cap : Nat) (w : World) :
  Calls Tryz.prog 272 #[.slice p 0 cap] w fun e w' => e = .returned (.tuple #[]) ∧ w' = w := Any.slices_Sort_int_none Tryz.lays189 p cap w
end Go.Proofs
namespace Go.Proofs.YtfpghdcjdnifcaaGreat
open Go Go.Sl Go.IntWalk Go.Sort
set_option linter.unusedVariables false
theorem ints_mp (zs : List Int) : ints zs = zs.map (.int .i64) := by
 unfold ints
 induction zs with
 | nil => rfl
 | cons x l ih => simp [ih]
def sortI (zs : List Int) : List Int := zs.mergeSort fun x y => decide (x ≤ y)
theorem sortI_len (zs : List Int) : (sortI zs).length = zs.length := by unfold sortI; exact List.length_mergeSort _
theorem Sort_spec (zs : List Int) (hl : zs.length ≤ 1000000) (a : Option Addr) (cap : Nat) (H : HL) (ho : Own 1 3 (ints zs) a zs.length cap H) :
  Ctr Tryz.prog 272 [.slice a zs.length cap] [H] [] (fun _ L' => ∃ H', L' = [H'] ∧ Own 1 3 (ints (sortI zs)) a zs.length cap H') := by
 refine ⟨Tryz.call272, fun w h1 h2 _ => ?_⟩
 by_cases h0 : zs.length = 0
 ·
  have hz : zs = [] := List.eq_nil_of_length_eq_zero h0
  subst hz
  refine (Tryz.slices_Sort_int_none a cap w).mono ?_
  rintro e w' ⟨rfl, rfl⟩
  refine ⟨_, [H], rfl, ⟨H, rfl, ?_⟩, ?_⟩
  · unfold sortI; rw [List.mergeSort_nil]; exact ho
  · exact ⟨h1, h2, fun b _ _ => rfl, fun b hb => .inl hb, Nat.le_refl _, fun _ h => (by cases h), ⟨rfl, rfl, rfl⟩⟩
 ·
  obtain ⟨b, l, rfl, rfl, hc, hlen, ht⟩ := ho.some (by omega)
  rw [Nat.mul_one] at hlen ht
  have hb : w.heap[b]? = some (.cells l.toArray 3 (0, 0)) := h1 (b, .cells l.toArray 3 (0, 0)) (by simp)
  have hbl : b < w.heap.size := (Array.getElem?_eq_some_iff.1 hb).1
  have hH : Holds (Value.int .i64) w b 0 zs.toArray := by
   intro j hj
   have hj' : j < zs.length := by simpa using hj
   refine ⟨?_, by simp [World.frozen?, hb]⟩
   have e1 : (l.take zs.length)[j]? = (ints zs)[j]? := by rw [ht]
   rw [List.getElem?_take, if_pos hj', ints_mp, List.getElem?_map, List.getElem?_eq_getElem hj'] at e1
   rw [cell_of_row w b (0 + j) _ _ _ hb, Nat.zero_add]
   simpa [getElem!_pos, hj'] using e1
  refine (Tryz.slices_Sort_int b 0 cap zs w hH hbl (by omega)).mono ?_
  rintro e w' ⟨rfl, n, os, rfl⟩
  have hsl := sortI_len zs
  have hrow : ∀ i, i < w.heap.size → (grow (putRow (Value.int .i64) (Sort.ahead w n) b 0 (zs.mergeSort fun x y => decide (x ≤ y)).toArray) os).heap[i]? = if i = b then some (.cells (putCells (Value.int .i64) 0 (sortI zs).toArray l.toArray) 3 (0, 0)) else w.heap[i]? := by
   intro i hi
   simp only [grow, putRow, mapBlock, Sort.ahead]
   rw [Array.getElem?_append_left (by simpa using hi), Array.getElem?_modify]
   by_cases hib : i = b
   ·
    subst hib
    rw [if_pos rfl, if_pos rfl, hb]
    rfl
   · rw [if_neg (Ne.symm hib), if_neg hib]
  refine ⟨_, [[(b, .cells (putCells (Value.int .i64) 0 (sortI zs).toArray l.toArray) 3 (0, 0))]], rfl, ⟨_, rfl, ?_⟩, ?_⟩
  ·
   refine ⟨by rw [ints_mp, List.length_map, hsl, Nat.mul_one], .inr ⟨b, (putCells (Value.int .i64) 0 (sortI zs).toArray l.toArray).toList, rfl, rfl, hc, by simp [putCells, hlen], ?_⟩⟩
   apply List.ext_getElem?
   intro j
   rw [List.getElem?_take, ints_mp, List.getElem?_map, Array.getElem?_toList, Nat.mul_one]
   by_cases hj : j < zs.length
   ·
    have hjc : j < l.toArray.size := by simp; omega
    rw [if_pos hj]
    simp only [putCells, Array.getElem?_mapIdx, Array.getElem?_eq_getElem hjc, Option.map_some]
    rw [if_pos ⟨Nat.zero_le _, by simp [hsl]; omega⟩, List.getElem?_eq_getElem (by omega)]
    simp [getElem!_pos, show j < (sortI zs).length by omega]
   ·
    rw [if_neg hj, List.getElem?_eq_none (by omega)]
    rfl
  ·
   refine ⟨?_, by simp [ids], fun i hi hne => ?_, fun i hi => .inl (by simpa [ids] using hi), ?_, fun _ h => (by cases h), ⟨rfl, rfl, rfl⟩⟩
   ·
    intro p hp
    simp at hp
    subst hp
    rw [hrow b hbl, if_pos rfl]
   · rw [hrow i hi, if_neg (by simpa [ids] using hne)]
   · simp [grow, putRow, mapBlock, Sort.ahead]
end Go.Proofs.YtfpghdcjdnifcaaGreat
namespace Go.Proofs.YtfpghdcjdnifcaaGreat
open Go Go.Sl Go.IntWalk
set_option maxHeartbeats 4000000
set_option maxRecDepth 20000
set_option linter.unusedVariables false
structure Dv where
 lasts : List (List Int)
 later : List (List Int)
 head : List Int
def zcell : List Int := sealB (List.replicate 16 0)
theorem z16_ok : u8ok (List.replicate 16 0) := fun b hb => by rw [List.eq_of_mem_replicate hb]; omega
theorem zcell_len : zcell.length = 20 := by unfold zcell; rw [sealB_len]; rfl
theorem zcell_ok : u8ok zcell := sealB_ok z16_ok
structure Dv.Ok (d : Dv) : Prop where
 len : d.later.length = d.lasts.length
 n : 1 ≤ d.lasts.length ∧ d.lasts.length ≤ 1024
 lu : ∀ c ∈ d.lasts, c.length = 20 ∧ u8ok c
 tu : ∀ c ∈ d.later, c = [] ∨ (c.length = 20 ∧ u8ok c)
 hu : u8ok d.head
 hl : d.head.length ≤ 100000
def Dv.last (d : Dv) (i : Int) : List Int := d.lasts.getD i.toNat []
def Dv.late (d : Dv) (i : Int) : List Int := d.later.getD i.toNat []
def Dv.in_ (d : Dv) (i : Int) : Prop := 0 ≤ i ∧ i < d.lasts.length
instance (d : Dv) (i : Int) : Decidable (d.in_ i) := by unfold Dv.in_; infer_instance
structure Cl where
 a : Option Addr
 cap : Nat
 xs : List Int
def Cl.v (c : Cl) : Value := .slice c.a c.xs.length c.cap
def ClIn (D : HL) (c : Cl) : Prop := c.xs.length ≤ c.cap ∧ ∃ r, RoSl 1 (u8s c.xs) c.a c.xs.length r ∧ ∀ q ∈ r, q ∈ D
theorem ClIn.mono {D D' : HL} {c : Cl} (h : ClIn D c) (hs : ∀ q ∈ D, q ∈ D') : ClIn D' c := by
 obtain ⟨h1, r, h2, h3⟩ := h
 exact ⟨h1, r, h2, fun q hq => hs q (h3 q hq)⟩
structure Reads (d : Dv) (tl tt : List (Int × Cl)) (D : HL) : Prop where
 lasts : ∀ i, d.in_ i → d.last i = (match mget tl i with | some c => c.xs | none => zcell)
 later : ∀ i, d.in_ i → d.late i = (match mget tt i with | some c => c.xs | none => [])
 keys : ∀ i c, mget tt i = some c → d.in_ i ∧ c.xs.length = 20
 nd : (tt.map (·.1)).Nodup
 ndl : (tl.map (·.1)).Nodup
 inl : ∀ i c, mget tl i = some c → ClIn D c
 int : ∀ i c, mget tt i = some c → ClIn D c
def DevAt (d : Dv) (b : Nat) (H : HL) : Prop := ∃ bl bt ah ch tl tt Hl Ht D,
 H = [(b, Obj.cells (List.toArray [.int .i64 d.lasts.length, .map (some bl), .map (some bt), .slice ah d.head.length ch]) 236 (0, 0))] ++ (Hl ++ (Ht ++ D)) ∧
 IsMp .i64 Cl.v tl bl Hl ∧ IsMq .i64 Cl.v tt bt Ht ∧ Reads d tl tt D ∧ ClIn D ⟨ah, ch, d.head⟩
theorem DevAt.head {d : Dv} {b : Nat} {H : HL} (h : DevAt d b H) : ∃ bl bt ah ch, (b, Obj.cells (List.toArray [.int .i64 d.lasts.length, .map (some bl), .map (some bt), .slice ah d.head.length ch]) 236 (0, 0)) ∈ H := by
 obtain ⟨bl, bt, ah, ch, tl, tt, Hl, Ht, D, rfl, -⟩ := h
 exact ⟨bl, bt, ah, ch, List.mem_append_left _ (List.mem_singleton.2 rfl)⟩
theorem Din_spec (d : Dv) (b : Nat) (H : HL) (h : DevAt d b H) (i : Int) : Ctr Tryz.prog 183 [.pointer (some ⟨b, 0, none⟩), .int .i64 i] [] H (fun v L' => v = .bool (decide (d.in_ i)) ∧ L' = []) := by
 obtain ⟨bl, bt, ah, ch, hb⟩ := h.head
 by_cases h0 : 0 ≤ i
 ·
  refine Ctr.enter (n := 15) [.tmp 4] [(0, _), (1, _)] Tryz.func183 rfl rfl rfl (lb rfl) Tryz.call183 ⟨rfl, rfl, trivial⟩ ?_
  intro cx fin fin0
  refine aG ?_
  repeat (first | refine gh h0 ?_ | refine gN fun _ => ?_ | refine gB fun _ => ?_ | fail)
  refine aV (OpVal.load tab_ok rfl (.inr hb) rfl) ?_
  repeat (first | refine gh h0 ?_ | refine gN fun _ => ?_ | refine gB fun _ => ?_ | fail)
  refine W.ret (fin _ _ (FinOk.first 0 (.tmp rfl .nil) rfl ?_))
  exact ⟨by simp [pack, Dv.in_, h0], rfl⟩
 ·
  refine Ctr.enter (n := 15) [.tmp 4] [(0, _), (1, _)] Tryz.func183 rfl rfl rfl (lb rfl) Tryz.call183 ⟨rfl, rfl, trivial⟩ ?_
  intro cx fin fin0
  refine aG ?_
  repeat (first | refine gh h0 ?_ | refine gN fun _ => ?_ | refine gB fun _ => ?_ | fail)
  refine W.ret (fin _ _ (FinOk.first 0 (.tmp rfl .nil) rfl ?_))
  exact ⟨by simp [pack, Dv.in_, h0], rfl⟩
theorem Dlasting_spec (d : Dv) (hd : d.Ok) (b : Nat) (H : HL) (h : DevAt d b H) (i : Int) (hi : d.in_ i) : Ctr Tryz.prog 185 [.pointer (some ⟨b, 0, none⟩), .int .i64 i] [] H
  (fun v L' => ∃ a cap H' r, v = .slice a 20 cap ∧ L' = [H'] ∧ 20 ≤ cap ∧ RoSl 1 (u8s (d.last i)) a 20 r ∧ ∀ q ∈ r, q ∈ H' ++ H) := by
 obtain ⟨bl, bt, ah, ch, tl, tt, Hl, Ht, D, rfl, ⟨es, clock, rfl, hm⟩, hq, hr, hh⟩ := h
 have hl := hr.lasts i hi
 have hlen : (d.last i).length = 20 := by
  have := hd.lu (d.last i) (by
   unfold Dv.last
   rw [List.getD_eq_getElem?_getD, List.getElem?_eq_getElem (show i.toNat < d.lasts.length by unfold Dv.in_ at hi; omega), Option.getD_some]
   exact List.getElem_mem _)
  exact this.1
 have hat : ∀ L (x : Nat × Obj), x ∈ (([(b, Obj.cells (List.toArray [.int .i64 d.lasts.length, .map (some bl), .map (some bt), .slice ah d.head.length ch]) 236 (0, 0))] ++ ([(bl, Obj.map es clock)] ++ (Ht ++ D)) : HL)) → At _ L x.1 x.2 := fun L x hx => .inr hx
 refine Ctr.enter (n := 26) [.tmp 4] [(0, _), (1, _)] Tryz.func185 rfl rfl rfl (lb rfl) Tryz.call185 ⟨rfl, rfl, trivial⟩ ?_
 intro cx fin fin0
 refine aG ?_
 refine aV (OpVal.load tab_ok rfl (hat _ (b, _) (List.mem_append_left _ (List.mem_singleton.2 rfl))) rfl) ?_
 refine aV (OpVal.lookup2 (f := Cl.v) Tryz.underlying234 Tryz.underlying3 ze_54 rfl rfl (hat _ (bl, .map es clock) (List.mem_append_right _ (List.mem_append_left _ (List.mem_singleton.2 rfl)))) hm) ?_
 cases hg : mget tl i with
 | some c =>
  rw [hg] at hl
  simp only at hl
  obtain ⟨c1, r, c2, c3⟩ := hr.inl i c hg
  rw [← hl, hlen] at c1 c2
  have hv : Cl.v c = .slice c.a 20 c.cap := by unfold Cl.v; rw [← hl, hlen]
  repeat (first | refine gx ?_ | refine gN fun _ => ?_ | refine gB fun _ => ?_ | fail)
  refine W.nilChunk ?_
  refine W.ret (fin _ _ (FinOk.first 1 (.tmp rfl .nil) rfl ?_))
  exact ⟨_, _, _, r, hv, rfl, c1, c2, fun q hq => by simp only [List.mem_append]; exact .inr (.inr (.inr (.inr (c3 q hq))))⟩
 | none =>
  rw [hg] at hl
  simp only at hl
  have hS := fun bz => Seal_spec (List.replicate 16 0) z16_ok (some ⟨bz, 0, none⟩) 16 _ (roOwn bz (List.replicate 16 0) 5)
  repeat (first | refine gx ?_ | refine gN fun _ => ?_ | refine gB fun _ => ?_ | fail)
  refine aC (o := VZero_spec) (h := ?_)
  rintro _ _ ⟨bz, rfl, rfl⟩
  refine aG ?_
  refine aC (o := hS bz) (h := ?_)
  rintro _ _ (⟨hn, -⟩ | ⟨-, a, cap, H', rfl, rfl, ho⟩)
  · exact absurd rfl hn
  refine aG ?_
  repeat (first | refine gx ?_ | refine gN fun _ => ?_ | refine gB fun _ => ?_ | fail)
  refine W.ret (fin _ _ (FinOk.first 1 (.tmp rfl .nil) rfl ?_))
  exact ⟨_, _, _, H', rfl, rfl, by rcases ho.2 with ⟨_, h, _⟩ | ⟨_, _, _, _, h, _⟩ <;> omega, by rw [hl]; exact Own.roSl ho, fun q hq => by simp [hq]⟩
theorem getD_mem {l : List (List Int)} {i : Int} (h : 0 ≤ i ∧ i < l.length) : l.getD i.toNat [] ∈ l := by
 rw [List.getD_eq_getElem?_getD, List.getElem?_eq_getElem (show i.toNat < l.length by omega), Option.getD_some]
 exact List.getElem_mem _
theorem Dv.Ok.last {d : Dv} (hd : d.Ok) {i : Int} (hi : d.in_ i) : (d.last i).length = 20 ∧ u8ok (d.last i) := hd.lu _ (getD_mem hi)
theorem Dv.Ok.late {d : Dv} (hd : d.Ok) {i : Int} (hi : d.in_ i) : d.late i = [] ∨ ((d.late i).length = 20 ∧ u8ok (d.late i)) := hd.tu _ (getD_mem (by rw [hd.len]; exact hi))
def Dv.lasting (d : Dv) (i : Int) : List Int × Int := if d.in_ i then cOpen (d.last i) else ([], 4)
def Dv.read (d : Dv) (i : Int) : List Int × Int := if d.in_ i then (if d.late i = [] then cOpen (d.last i) else cOpen (d.late i)) else ([], 4)
def TwoOwn (r : List Int × Int) (v : Value) (L' : List HL) : Prop := ∃ a' cap' H', v = .tuple #[.slice a' r.1.length cap', .int .i64 r.2] ∧ L' = [H'] ∧ Own 1 5 (u8s r.1) a' r.1.length cap' H'
theorem DLasting_spec (d : Dv) (hd : d.Ok) (b : Nat) (H : HL) (h : DevAt d b H) (i : Int) : Ctr Tryz.prog 112 [.pointer (some ⟨b, 0, none⟩), .int .i64 i] [] H (TwoOwn (d.lasting i)) := by
 have hin := Din_spec d b H h i
 unfold Dv.lasting
 by_cases hi : d.in_ i
 ·
  rw [if_pos hi]
  have hL := Dlasting_spec d hd b H h i hi
  obtain ⟨h20, hu⟩ := hd.last hi
  have hO := fun a cap hcap r hr => Open_spec (d.last i) hu a cap hcap r hr h20
  rw [h20] at hO
  refine Ctr.enter (n := 16) [.tmp 4, .tmp 5] [(0, _), (1, _)] Tryz.func112 rfl rfl rfl (lb rfl) Tryz.call112 ⟨rfl, rfl, trivial⟩ ?_
  intro cx fin fin0
  refine aG ?_
  refine aC (o := hin) (h := ?_) (hro := RoIn.all (fun q hq => hq))
  rintro _ _ ⟨rfl, rfl⟩
  refine aG ?_
  repeat (first | refine gh hi ?_ | refine gN fun _ => ?_ | refine gB fun _ => ?_ | fail)
  refine aC (o := hL) (h := ?_) (hro := RoIn.all (fun q hq => hq))
  rintro _ _ ⟨a, cap, H', r, rfl, rfl, hcap, hr, hsub⟩
  refine aG ?_
  refine aC (o := hO a cap hcap r hr) (h := ?_) (hro := (fun q hq => (List.mem_append.1 (hsub q hq)).elim (fun h => .inl (by simp [h])) .inr))
  rintro _ _ ⟨a2, c2, H2, rfl, rfl, ho⟩
  refine aG ?_
  repeat (first | refine gh hi ?_ | refine gN fun _ => ?_ | refine gB fun _ => ?_ | fail)
  refine W.ret (fin _ _ (FinOk.first 1 (.tmp rfl (.tmp rfl .nil)) rfl ?_))
  exact ⟨_, _, _, rfl, rfl, ho⟩
 ·
  rw [if_neg hi]
  refine Ctr.enter (n := 16) [.tmp 4, .tmp 5] [(0, _), (1, _)] Tryz.func112 rfl rfl rfl (lb rfl) Tryz.call112 ⟨rfl, rfl, trivial⟩ ?_
  intro cx fin fin0
  refine aG ?_
  refine aC (o := hin) (h := ?_) (hro := RoIn.all (fun q hq => hq))
  rintro _ _ ⟨rfl, rfl⟩
  refine aG ?_
  repeat (first | refine gh hi ?_ | refine gN fun _ => ?_ | refine gB fun _ => ?_ | fail)
  refine W.nilChunk ?_
  refine W.ret (fin _ _ (FinOk.first 1 (.tmp rfl (.tmp rfl .nil)) rfl ?_))
  exact ⟨_, _, _, rfl, rfl, Own.nil 1 _⟩
theorem DRead_spec (d : Dv) (hd : d.Ok) (b : Nat) (H : HL) (h : DevAt d b H) (i : Int) : Ctr Tryz.prog 173 [.pointer (some ⟨b, 0, none⟩), .int .i64 i] [] H (TwoOwn (d.read i)) := by
 have hL := DLasting_spec d hd b H h i
 obtain ⟨bl, bt, ah, ch, tl, tt, Hl, Ht, D, rfl, hml, ⟨es, clock, rfl, hm, hbc, hbn⟩, hr, hh⟩ := h
 have hat : ∀ L (x : Nat × Obj), x ∈ (([(b, Obj.cells (List.toArray [.int .i64 d.lasts.length, .map (some bl), .map (some bt), .slice ah d.head.length ch]) 236 (0, 0))] ++ (Hl ++ ([(bt, Obj.map es clock)] ++ D)) : HL)) → At _ L x.1 x.2 := fun L x hx => .inr hx
 have hrd : d.read i = d.read i := rfl
 conv at hrd => rhs; unfold Dv.read
 generalize d.read i = out at *
 refine Ctr.enter (n := 27) [.tmp 4, .tmp 5] [(0, _), (1, _)] Tryz.func173 rfl rfl rfl (lb rfl) Tryz.call173 ⟨rfl, rfl, trivial⟩ ?_
 intro cx fin fin0
 refine aG ?_
 refine aV (OpVal.load tab_ok rfl (hat _ (b, _) (List.mem_append_left _ (List.mem_singleton.2 rfl))) rfl) ?_
 refine aV (OpVal.lookup2 (f := Cl.v) Tryz.underlying234 Tryz.underlying3 ze_54 rfl rfl (hat _ (bt, .map es clock) (List.mem_append_right _ (List.mem_append_right _ (List.mem_append_left _ (List.mem_singleton.2 rfl))))) hm) ?_
 cases hg : mget tt i with
 | some c =>
  obtain ⟨hi, h20⟩ := hr.keys i c hg
  have hl := hr.later i hi
  rw [hg] at hl
  simp only at hl
  obtain ⟨c1, r, c2, c3⟩ := hr.int i c hg
  have hne : ¬ d.late i = [] := by rw [hl]; intro h0; rw [h0] at h20; simp at h20
  have hu : u8ok c.xs := by
   rcases hd.late hi with h0 | ⟨_, h0⟩
   · exact absurd h0 hne
   · rw [← hl]; exact h0
  have hO := Open_spec c.xs hu c.a c.cap c1 r c2 h20
  rw [if_pos hi, if_neg hne, hl] at hrd
  subst hrd
  repeat (first | refine gx ?_ | refine gN fun _ => ?_ | refine gB fun _ => ?_ | fail)
  refine aC (o := hO) (h := ?_) (hro := (fun q hq => .inr (by simp only [List.mem_append]; exact .inr (.inr (.inr (c3 q hq))))))
  rintro _ _ ⟨a2, c2, H2, rfl, rfl, ho⟩
  refine aG ?_
  repeat (first | refine gx ?_ | refine gN fun _ => ?_ | refine gB fun _ => ?_ | fail)
  refine W.ret (fin _ _ (FinOk.first 1 (.tmp rfl (.tmp rfl .nil)) rfl ?_))
  exact ⟨_, _, _, rfl, rfl, ho⟩
 | none =>
  have he : out = d.lasting i := by
   rw [hrd]
   unfold Dv.lasting
   by_cases hi : d.in_ i
   ·
    have hl := hr.later i hi
    rw [hg] at hl
    simp only at hl
    rw [if_pos hi, if_pos hi, if_pos hl]
   · rw [if_neg hi, if_neg hi]
  subst he
  repeat (first | refine gx ?_ | refine gN fun _ => ?_ | refine gB fun _ => ?_ | fail)
  refine aC (o := hL) (h := ?_) (hro := RoIn.all (fun q hq => hq))
  rintro _ _ ⟨a2, c2, H2, rfl, rfl, ho⟩
  refine aG ?_
  repeat (first | refine gx ?_ | refine gN fun _ => ?_ | refine gB fun _ => ?_ | fail)
  refine W.ret (fin _ _ (FinOk.first 1 (.tmp rfl (.tmp rfl .nil)) rfl ?_))
  exact ⟨_, _, _, rfl, rfl, ho⟩
theorem DHead_spec (d : Dv) (hd : d.Ok) (b : Nat) (H : HL) (h : DevAt d b H) : Ctr Tryz.prog 181 [.pointer (some ⟨b, 0, none⟩)] [] H
  (fun v L' => ∃ a' cap' H', v = .slice a' d.head.length cap' ∧ L' = [H'] ∧ Own 1 5 (u8s d.head) a' d.head.length cap' H') := by
 obtain ⟨bl, bt, ah, ch, tl, tt, Hl, Ht, D, rfl, hml, hmt, hr, c1, r, c2, c3⟩ := h
 have hat : ∀ L (x : Nat × Obj), x ∈ (([(b, Obj.cells (List.toArray [.int .i64 d.lasts.length, .map (some bl), .map (some bt), .slice ah d.head.length ch]) 236 (0, 0))] ++ (Hl ++ (Ht ++ D)) : HL)) → At _ L x.1 x.2 := fun L x hx => .inr hx
 have hC := BClone_spec d.head (by have := hd.hl; omega) ah ch r c2
 refine Ctr.enter (n := 8) [.tmp 2] [(0, _)] Tryz.func181 rfl rfl rfl (lb rfl) Tryz.call181 ⟨rfl, trivial⟩ ?_
 intro cx fin fin0
 refine aG ?_
 refine aV (OpVal.load tab_ok rfl (hat _ (b, _) (List.mem_append_left _ (List.mem_singleton.2 rfl))) rfl) ?_
 refine aC (o := hC) (h := ?_) (hro := (fun q hq => .inr (by simp only [List.mem_append]; exact .inr (.inr (.inr (c3 q hq))))))
 rintro _ _ ⟨a2, c2, H2, rfl, rfl, ho⟩
 refine aG ?_
 repeat (first | refine gx ?_ | refine gN fun _ => ?_ | refine gB fun _ => ?_ | fail)
 refine W.ret (fin _ _ (FinOk.first 1 (.tmp rfl .nil) rfl ?_))
 exact ⟨_, _, _, rfl, rfl, ho⟩
end Go.Proofs.YtfpghdcjdnifcaaGreat
namespace Go.Proofs.YtfpghdcjdnifcaaGreat
open Go Go.Sl Go.IntWalk
set_option maxHeartbeats 4000000
set_option maxRecDepth 20000
set_option linter.unusedVariables false
theorem getD_set {l : List (List Int)} {i j : Int} {x : List Int} (hi : 0 ≤ i ∧ i < l.length) (hj : 0 ≤ j) : (l.set i.toNat x).getD j.toNat [] = if i = j then x else l.getD j.toNat [] := by
 rw [List.getD_eq_getElem?_getD, List.getElem?_set]
 by_cases h : i = j
 ·
  subst h
  rw [if_pos rfl, if_pos rfl, if_pos (by omega)]
  rfl
 · rw [if_neg h, if_neg (by omega), List.getD_eq_getElem?_getD]
def Dv.setLater (d : Dv) (i : Int) (c : List Int) : Dv := ⟨d.lasts, d.later.set i.toNat c, d.head⟩
def Dv.setLast (d : Dv) (i : Int) (c : List Int) : Dv := ⟨d.lasts.set i.toNat c, d.later, d.head⟩
theorem setLater_in {d : Dv} {i j : Int} {c : List Int} : (d.setLater i c).in_ j ↔ d.in_ j := Iff.rfl
theorem setLast_in {d : Dv} {i j : Int} {c : List Int} : (d.setLast i c).in_ j ↔ d.in_ j := by unfold Dv.in_ Dv.setLast; simp
theorem Dv.Ok.setLater {d : Dv} (hd : d.Ok) {i : Int} {c : List Int} (hc : c = [] ∨ (c.length = 20 ∧ u8ok c)) : (d.setLater i c).Ok :=
 ⟨by simp [Dv.setLater, hd.len], hd.n, hd.lu, fun x hx => by
  rcases List.mem_or_eq_of_mem_set hx with h | rfl
  · exact hd.tu x h
  · exact hc, hd.hu, hd.hl⟩
theorem Dv.Ok.setLast {d : Dv} (hd : d.Ok) {i : Int} {c : List Int} (hc : c.length = 20 ∧ u8ok c) : (d.setLast i c).Ok :=
 ⟨by simp [Dv.setLast, hd.len], by simpa [Dv.setLast] using hd.n, fun x hx => by
  rcases List.mem_or_eq_of_mem_set hx with h | rfl
  · exact hd.lu x h
  · exact hc, hd.tu, hd.hu, hd.hl⟩
theorem Reads.mono {d : Dv} {tl tt : List (Int × Cl)} {D D' : HL} (h : Reads d tl tt D) (hs : ∀ q ∈ D, q ∈ D') : Reads d tl tt D' :=
 ⟨h.lasts, h.later, h.keys, h.nd, h.ndl, fun i c hc => (h.inl i c hc).mono hs, fun i c hc => (h.int i c hc).mono hs⟩
theorem Reads.put {d : Dv} {tl tt : List (Int × Cl)} {D : HL} (h : Reads d tl tt D) (hd : d.Ok) {i : Int} (hi : d.in_ i) {c : Cl} (h20 : c.xs.length = 20) (hc : ClIn D c) : Reads (d.setLater i c.xs) tl (mput tt i c) D := by
 refine ⟨h.lasts, fun j hj => ?_, fun j e he => ?_, mput_nd h.nd i c, h.ndl, h.inl, fun j e he => ?_⟩
 ·
  rw [mget_mput]
  have hi' : 0 ≤ i ∧ i < d.later.length := by rw [hd.len]; exact hi
  have : (d.setLater i c.xs).late j = if i = j then c.xs else d.late j := getD_set hi' hj.1
  rw [this]
  by_cases hij : i = j
  · rw [if_pos hij, if_pos hij]
  · rw [if_neg hij, if_neg hij]; exact h.later j hj
 ·
  rw [mget_mput] at he
  split at he
  · rename_i hij; cases he; subst hij; exact ⟨hi, h20⟩
  · exact h.keys j e he
 ·
  rw [mget_mput] at he
  split at he
  · cases he; exact hc
  · exact h.int j e he
theorem Reads.del {d : Dv} {tl tt : List (Int × Cl)} {D : HL} (h : Reads d tl tt D) (hd : d.Ok) {i : Int} (hi : d.in_ i) : Reads (d.setLater i []) tl (mdel tt i) D := by
 refine ⟨h.lasts, fun j hj => ?_, fun j e he => ?_, mdel_nd h.nd i, h.ndl, h.inl, fun j e he => ?_⟩
 ·
  rw [mget_mdel h.nd]
  have hi' : 0 ≤ i ∧ i < d.later.length := by rw [hd.len]; exact hi
  have : (d.setLater i []).late j = if i = j then [] else d.late j := getD_set hi' hj.1
  rw [this]
  by_cases hij : i = j
  · rw [if_pos hij, if_pos hij]
  · rw [if_neg hij, if_neg hij]; exact h.later j hj
 ·
  rw [mget_mdel h.nd] at he
  split at he
  · cases he
  · exact h.keys j e he
 ·
  rw [mget_mdel h.nd] at he
  split at he
  · cases he
  · exact h.int j e he
theorem Reads.putl {d : Dv} {tl tt : List (Int × Cl)} {D : HL} (h : Reads d tl tt D) {i : Int} (hi : d.in_ i) {c : Cl} (hc : ClIn D c) : Reads (d.setLast i c.xs) (mput tl i c) tt D := by
 refine ⟨fun j hj => ?_, fun j hj => h.later j (setLast_in.1 hj), fun j e he => ⟨setLast_in.2 (h.keys j e he).1, (h.keys j e he).2⟩, h.nd, mput_nd h.ndl i c, fun j e he => ?_, h.int⟩
 ·
  rw [mget_mput]
  have : (d.setLast i c.xs).last j = if i = j then c.xs else d.last j := getD_set hi hj.1
  rw [this]
  by_cases hij : i = j
  · rw [if_pos hij, if_pos hij]
  · rw [if_neg hij, if_neg hij]; exact h.lasts j (setLast_in.1 hj)
 ·
  rw [mget_mput] at he
  split at he
  · cases he; exact hc
  · exact h.inl j e he
theorem _root_.Go.Sl.W.split2 {P : Program} {n : Nat} {R : HL} {cx : Cx} {k : List Kont} {ρ : Env} {L : List HL} {A B : HL} {M : List HL} (h : L = (A ++ B) :: M) (hk : W P n R cx k ρ (A :: B :: M)) : W P n R cx k ρ L := by
 subst h
 exact W.regroup (by simp) hk
theorem _root_.Go.Sl.W.split4 {P : Program} {n : Nat} {R : HL} {cx : Cx} {k : List Kont} {ρ : Env} {L : List HL} {A B C D : HL} {M : List HL} (h : L = (A ++ (B ++ (C ++ D))) :: M) (hk : W P n R cx k ρ (A :: B :: C :: D :: M)) : W P n R cx k ρ L := by
 subst h
 exact W.regroup (by simp) hk
def Dv.write (d : Dv) (i : Int) (bs : List Int) : Dv × Int := if d.in_ i then (if bs.length = 16 then (d.setLater i (sealB bs), 0) else (d, 2)) else (d, 4)
theorem DWrite_spec (d : Dv) (hd : d.Ok) (b : Nat) (H : HL) (h : DevAt d b H) (i : Int) (bs : List Int) (hu : u8ok bs) (a : Option Addr) (cap : Nat) (rb : HL) (hrb : RoSl 1 (u8s bs) a bs.length rb) :
  Ctr Tryz.prog 174 [.pointer (some ⟨b, 0, none⟩), .int .i64 i, .slice a bs.length cap] [H] rb (fun v L' => ∃ H', v = .int .i64 (d.write i bs).2 ∧ L' = [H'] ∧ DevAt (d.write i bs).1 b H') := by
 have hin := Din_spec d b H h i
 have hS := Seal_spec bs hu a cap rb hrb
 unfold Dv.write
 by_cases hi : d.in_ i
 ·
  rw [if_pos hi]
  by_cases h16 : bs.length = 16
  ·
   rw [if_pos h16]
   obtain ⟨bl, bt, ah, ch, tl, tt, Hl, Ht, D, rfl, hml, hmt, hr, hh⟩ := h
   refine Ctr.enter (n := 27) [.tmp 6] [(0, _), (1, _), (2, _)] Tryz.func174 rfl rfl rfl (lb rfl) Tryz.call174 ⟨rfl, rfl, rfl, trivial⟩ ?_
   intro cx fin fin0
   refine aG ?_
   refine aC (o := hin) (h := ?_) (hro := RoIn.own 0 rfl)
   rintro _ _ ⟨rfl, rfl⟩
   refine aG ?_
   repeat (first | refine gh hi ?_ | refine gN fun _ => ?_ | refine gB fun _ => ?_ | fail)
   refine aC (o := hS) (h := ?_)
   rintro _ _ (⟨hn, -⟩ | ⟨-, a2, c2, H2, rfl, rfl, ho⟩)
   · exact absurd h16 hn
   refine W.order [1, 0] rfl ?_
   refine W.split4 rfl ?_
   refine aG ?_
   repeat (first | refine gx ?_ | refine gN fun _ => ?_ | refine gB fun _ => ?_ | fail)
   have hs20 : (sealB bs).length = 20 := by rw [sealB_len, h16]
   have hv : Cl.v ⟨a2, c2, sealB bs⟩ = .slice a2 20 c2 := by unfold Cl.v; rw [hs20]
   refine aSkp (mqPut (f := Cl.v) (v := ⟨a2, c2, sealB bs⟩) Tryz.underlying234 Tryz.underlying3 rfl rfl (by exact (congrArg some hv).symm) (by intro p hp; simp [hp]) hmt) ?_
   rintro _ ⟨Hm, rfl, hm'⟩
   refine aG ?_
   repeat (first | refine gx ?_ | refine gN fun _ => ?_ | refine gB fun _ => ?_ | fail)
   refine W.groupV [1, 1, 0, 1, 0] rfl ?_
   refine W.ret (fin _ _ (FinOk.first 1 (.tmp rfl .nil) rfl ?_))
   refine ⟨_, rfl, rfl, bl, bt, ah, ch, tl, _, Hl, Hm, H2 ++ D, rfl, hml, hm', (hr.mono fun q hq => List.mem_append_right _ hq).put (c := ⟨a2, c2, sealB bs⟩) hd hi hs20 ?_, hh.mono fun q hq => List.mem_append_right _ hq⟩
   refine ⟨?_, H2, by show RoSl 1 (u8s (sealB bs)) a2 (sealB bs).length H2; rw [hs20]; exact Own.roSl ho, fun q hq => List.mem_append_left _ hq⟩
   show (sealB bs).length ≤ c2
   rcases ho.2 with ⟨_, h0, _⟩ | ⟨_, _, _, _, h0, _⟩ <;> omega
  ·
   rw [if_neg h16]
   refine Ctr.enter (n := 27) [.tmp 6] [(0, _), (1, _), (2, _)] Tryz.func174 rfl rfl rfl (lb rfl) Tryz.call174 ⟨rfl, rfl, rfl, trivial⟩ ?_
   intro cx fin fin0
   refine aG ?_
   refine aC (o := hin) (h := ?_) (hro := RoIn.own 0 rfl)
   rintro _ _ ⟨rfl, rfl⟩
   refine aG ?_
   repeat (first | refine gh hi ?_ | refine gN fun _ => ?_ | refine gB fun _ => ?_ | fail)
   refine aC (o := hS) (h := ?_)
   rintro _ _ (⟨-, rfl, rfl⟩ | ⟨hn, -⟩)
   ·
    refine aG ?_
    repeat (first | refine gx ?_ | refine gN fun _ => ?_ | refine gB fun _ => ?_ | fail)
    refine W.ret (fin _ _ (FinOk.first 1 (.tmp rfl .nil) rfl ?_))
    exact ⟨_, rfl, rfl, h⟩
   · exact absurd hn h16
 ·
  rw [if_neg hi]
  refine Ctr.enter (n := 27) [.tmp 6] [(0, _), (1, _), (2, _)] Tryz.func174 rfl rfl rfl (lb rfl) Tryz.call174 ⟨rfl, rfl, rfl, trivial⟩ ?_
  intro cx fin fin0
  refine aG ?_
  refine aC (o := hin) (h := ?_) (hro := RoIn.own 0 rfl)
  rintro _ _ ⟨rfl, rfl⟩
  refine aG ?_
  repeat (first | refine gh hi ?_ | refine gN fun _ => ?_ | refine gB fun _ => ?_ | fail)
  refine W.ret (fin _ _ (FinOk.first 1 (.tmp rfl .nil) rfl ?_))
  exact ⟨_, rfl, rfl, h⟩
def Dv.laterIn (d : Dv) (from_ to : Int) : List Int := ((List.range d.lasts.length).map Int.ofNat).filter fun i => decide (from_ ≤ i ∧ i < to ∧ d.late i ≠ [])
theorem range_sorted (n : Nat) : ((List.range n).map Int.ofNat).Pairwise (· ≤ ·) := by
 rw [List.pairwise_map]
 exact (List.pairwise_lt_range (n := n)).imp fun {a b} h => by show (a : Int) ≤ (b : Int); omega
theorem range_nodup (n : Nat) : ((List.range n).map Int.ofNat).Nodup := by
 rw [List.Nodup, List.pairwise_map]
 exact (List.pairwise_lt_range (n := n)).imp fun {a b} h => by show (a : Int) ≠ (b : Int); omega
theorem mget_key {m : List (Int × Cl)} {k : Int} : k ∈ m.map (·.1) ↔ ∃ c, mget m k = some c := by
 induction m with
 | nil => simp [mget]
 | cons p r ih =>
  obtain ⟨a, v⟩ := p
  simp only [List.map_cons, List.mem_cons, mget]
  by_cases h : a = k
  · rw [if_pos h]; simp [h]
  ·
   rw [if_neg h, ← ih]
   simp [Ne.symm h]
theorem Reads.sorted {d : Dv} {tl tt : List (Int × Cl)} {D : HL} (h : Reads d tl tt D) (from_ to : Int) {zs : List Int} (hp : zs.Perm ((tt.map (·.1)).filter fun k => decide (from_ ≤ k ∧ k < to))) : sortI zs = d.laterIn from_ to := by
 have h1 : (sortI zs).Pairwise (· ≤ ·) := by
  have := List.pairwise_mergeSort (le := fun x y : Int => decide (x ≤ y)) (by intro a b c h1 h2; simp at *; omega) (by intro a b; simp; omega) zs
  exact this.imp fun h => by simpa using h
 have h2 : (d.laterIn from_ to).Pairwise (· ≤ ·) := (range_sorted _).sublist List.filter_sublist
 have h3 : (sortI zs).Perm zs := List.mergeSort_perm _ _
 refine List.Perm.eq_of_pairwise (le := (· ≤ ·)) (fun a b _ _ h1 h2 => Int.le_antisymm h1 h2) h1 h2 ((h3.trans hp).trans ?_)
 unfold Dv.laterIn
 rw [List.perm_ext_iff_of_nodup (h.nd.sublist List.filter_sublist) ((range_nodup _).sublist List.filter_sublist)]
 intro k
 rw [List.mem_filter, List.mem_filter, mget_key, List.mem_map]
 simp only [List.mem_range, decide_eq_true_eq]
 constructor
 ·
  rintro ⟨⟨c, hc⟩, hf, ht⟩
  obtain ⟨hi, h20⟩ := h.keys k c hc
  refine ⟨⟨k.toNat, by unfold Dv.in_ at hi; omega, by unfold Dv.in_ at hi; show ((k.toNat : Nat) : Int) = k; omega⟩, hf, ht, ?_⟩
  rw [h.later k hi, hc]
  intro h0
  simp only at h0
  rw [h0] at h20
  simp at h20
 ·
  rintro ⟨⟨j, hj, rfl⟩, hf, ht, hne⟩
  have hi : d.in_ (Int.ofNat j) := ⟨by show (0 : Int) ≤ (j : Int); omega, by show (j : Int) < _; omega⟩
  rw [h.later _ hi] at hne
  refine ⟨?_, hf, ht⟩
  cases hg : mget tt (Int.ofNat j) with
  | none => rw [hg] at hne; exact absurd rfl hne
  | some c => exact ⟨c, rfl⟩
end Go.Proofs.YtfpghdcjdnifcaaGreat
namespace Go.Proofs.YtfpghdcjdnifcaaGreat
open Go Go.Sl Go.IntWalk
set_option maxHeartbeats 4000000
set_option maxRecDepth 20000
set_option linter.unusedVariables false
theorem filter_step {p : Int → Bool} {zs ks : List Int} {todo : List (Int × Cl)} {j : Nat} (hj : j < todo.length) (h : (zs ++ (todo.map (·.1)).filter p).Perm ks) :
  ((if p todo[j].1 = true then zs ++ [todo[j].1] else zs) ++ ((todo.eraseIdx j).map (·.1)).filter p).Perm ks := by
 have e : (todo.map (·.1)).Perm (todo[j].1 :: (todo.eraseIdx j).map (·.1)) := by
  have h1 : todo.Perm (todo[j] :: todo.eraseIdx j) := by
   have h2 : todo = todo.take j ++ todo[j] :: todo.drop (j + 1) := by simp
   have h3 : todo.eraseIdx j = todo.take j ++ todo.drop (j + 1) := List.eraseIdx_eq_take_drop_succ _ _
   rw [h3]
   conv => lhs; rw [h2]
   exact List.perm_middle
  exact h1.map _
 have e2 := e.filter p
 rw [List.filter_cons] at e2
 split
 ·
  rename_i hp
  rw [if_pos hp] at e2
  refine List.Perm.trans ?_ h
  rw [List.append_assoc]
  exact (List.Perm.refl zs).append e2.symm
 ·
  rename_i hp
  rw [if_neg hp] at e2
  exact (List.Perm.append (List.Perm.refl zs) e2.symm).trans h
theorem DLater_spec (d : Dv) (hd : d.Ok) (b : Nat) (H : HL) (h : DevAt d b H) (from_ to : Int) : Ctr Tryz.prog 241 [.pointer (some ⟨b, 0, none⟩), .int .i64 from_, .int .i64 to] [H] []
  (fun v L' => ∃ a cap H' Hz, v = .slice a (d.laterIn from_ to).length cap ∧ L' = [H', Hz] ∧ DevAt d b H' ∧ Own 1 3 (ints (d.laterIn from_ to)) a (d.laterIn from_ to).length cap Hz) := by
 obtain ⟨bl, bt, ah, ch, tl, tt, Hl, Ht, D, rfl, hml, ⟨es, clock, rfl, hm, hbc, hbn⟩, hr, hh⟩ := h
 have hlim : (tt.map (·.1)).length ≤ 1024 := by
  have h1 := hr.sorted (-1) 100000 (List.Perm.refl _)
  have h2 : ((tt.map (·.1)).filter fun k => decide ((-1 : Int) ≤ k ∧ k < 100000)) = tt.map (·.1) := by
   rw [List.filter_eq_self]
   intro k hk
   obtain ⟨c, hc⟩ := mget_key.1 hk
   obtain ⟨⟨g1, g2⟩, -⟩ := hr.keys k c hc
   have := hd.n.2
   simp only [decide_eq_true_eq]
   omega
  rw [h2] at h1
  have h3 := sortI_len (tt.map (·.1))
  rw [h1] at h3
  have h4 : (d.laterIn (-1) 100000).length ≤ d.lasts.length := by
   unfold Dv.laterIn
   exact Nat.le_trans (List.length_filter_le _ _) (by simp)
  have := hd.n.2
  omega
 have hgoal : ∀ zs : List Int, zs.Perm ((tt.map (·.1)).filter fun k => decide (from_ ≤ k ∧ k < to)) → sortI zs = d.laterIn from_ to := fun zs hz => hr.sorted from_ to hz
 generalize d.laterIn from_ to = out at *
 refine Ctr.enter (n := 33) [.tmp 6] [(0, _), (1, _), (2, _)] Tryz.func241 rfl rfl rfl (lb rfl) Tryz.call241 ⟨rfl, rfl, rfl, trivial⟩ ?_
 intro cx fin fin0
 refine aG ?_
 refine W.split4 rfl ?_
 refine aG ?_
 repeat (first | refine gx ?_ | refine gN fun _ => ?_ | refine gB fun _ => ?_ | fail)
 refine aW (NewOf.range (b := bt) (clock := clock) (es := es) Tryz.underlying234 rfl (at_own 2 rfl)) ?_
 intro _
 refine aG ?_
 rename_i r
 refine W.groupV [3, 0] rfl ?_
 have hrg0 : IsRg .i64 Cl.v tt tt none bt r _ := IsMq.rg (r := r) hm hbc hbn
 refine W.nilChunk ?_
 refine aLp (fun k ρ1 L1 => ∃ (zs : List Int) (a : Option Addr) (cap : Nat) (Hz Hr : HL) (todo : List (Int × Cl)) (cur : Option (Int × Cl)), k = todo.length ∧ todo.length + zs.length ≤ 1024 ∧ IsRg .i64 Cl.v tt todo cur bt r Hr ∧ Own 1 3 (ints zs) a zs.length cap Hz ∧ (zs ++ (todo.map (·.1)).filter fun k => decide (from_ ≤ k ∧ k < to)).Perm ((tt.map (·.1)).filter fun k => decide (from_ ≤ k ∧ k < to)) ∧ ρ1 = [(13, .pointer (some ⟨r, 0, none⟩)), (7, .slice a zs.length cap), (1, .int .i64 from_), (2, .int .i64 to)] ∧ L1 = [Hz, Hr, [(b, Obj.cells (List.toArray [.int .i64 d.lasts.length, .map (some bl), .map (some bt), .slice ah d.head.length ch]) 236 (0, 0))], Hl, D]) (o := ⟨[], none, 0, [], _, tt, none, rfl, by simpa using hlim, hrg0, Own.nil 1 _, List.Perm.refl _, rfl, rfl⟩) (h := ?_)
 rintro k ρ1 L1 ⟨zs, a, cap, Hz, Hr, todo, cur, rfl, hbd, hrg, how, hperm, rfl, rfl⟩
 refine aG ?_
 refine aPr (mapNext rfl (by intro p hp; simp [hp]) hrg) ?_
 rintro _ _ ⟨Hr2, rfl, ⟨rfl, rfl, hrg2⟩ | ⟨j, hj, rfl, hrg2⟩⟩
 refine aG ?_
 ·
  repeat (first | refine gx ?_ | refine gN fun _ => ?_ | refine gB fun _ => ?_ | fail)
  obtain ⟨H1, H2, rfl, hmq⟩ := hrg2.mq
  have hs := hgoal zs (by simpa using hperm)
  have hlz : zs.length ≤ 1024 := by simpa using hbd
  have hlo := sortI_len zs
  rw [hs] at hlo
  have hS := Sort_spec zs (by omega) a cap Hz how
  rw [hs] at hS
  refine W.split2 rfl ?_
  refine aC (o := hS) (h := ?_)
  rintro _ _ ⟨Hz2, rfl, how2⟩
  refine aG ?_
  repeat (first | refine gx ?_ | refine gN fun _ => ?_ | refine gB fun _ => ?_ | fail)
  refine W.groupV [3, 3, 1, 2] rfl ?_
  refine W.ret (fin _ _ (FinOk.first 2 (.tmp rfl .nil) rfl ?_))
  exact ⟨_, _, _, _, by rw [hlo]; rfl, rfl, ⟨bl, bt, ah, ch, tl, tt, Hl, H1, D, rfl, hml, hmq, hr, hh⟩, by rw [hlo]; exact how2⟩
 ·
  refine aG ?_
  repeat (first | refine gx ?_ | refine gN fun _ => ?_ | refine gB fun _ => ?_ | fail)
  refine aV (OpVal.entry rfl (fun p hp => .inl (List.mem_append_left _ hp)) hrg2) ?_
  have hst := filter_step hj hperm
  have hel : (todo.eraseIdx j).length = todo.length - 1 := by rw [List.length_eraseIdx, if_pos hj]
  generalize todo[j].1 = q at *
  generalize todo.eraseIdx j = todo2 at *
  by_cases h1 : from_ ≤ q
  ·
   by_cases h2 : q < to
   ·
    rw [if_pos (by simp [h1, h2])] at hst
    repeat (first | refine gh (gc2 h1 h2) ?_ | refine gN fun _ => ?_ | refine gB fun _ => ?_ | fail)
    refine aSl (ps := [_]) ?_
    intro bt
    refine aG ?_
    refine aAp (how) ?_
    rintro _ _ ⟨_, _, _, rfl, rfl, ho⟩
    refine aG ?_
    have e : ints zs ++ [.int .i64 q] = ints (zs ++ [q]) := by simp [ints]
    rw [e] at ho
    rw [show zs.length + 1 = (zs ++ [q]).length by simp] at *
    repeat (first | refine gh (gc2 h1 h2) ?_ | refine gN fun _ => ?_ | refine gB fun _ => ?_ | fail)
    refine aR (o := ⟨todo2.length, by omega, zs ++ [q], _, _, _, _, todo2, _, rfl, by simp at hbd ⊢; omega, hrg2, ho, hst, rfl, rfl⟩)
   ·
    rw [if_neg (by simp [h1, h2])] at hst
    repeat (first | refine gh (gc2 h1 h2) ?_ | refine gN fun _ => ?_ | refine gB fun _ => ?_ | fail)
    refine aR (o := ⟨todo2.length, by omega, zs, _, _, _, _, todo2, _, rfl, by omega, hrg2, how, hst, rfl, rfl⟩)
  ·
   rw [if_neg (by simp [h1])] at hst
   repeat (first | refine gh h1 ?_ | refine gN fun _ => ?_ | refine gB fun _ => ?_ | fail)
   refine aR (o := ⟨todo2.length, by omega, zs, _, _, _, _, todo2, _, rfl, by omega, hrg2, how, hst, rfl, rfl⟩)
end Go.Proofs.YtfpghdcjdnifcaaGreat
namespace Go.Proofs.YtfpghdcjdnifcaaGreat
open Go Go.Sl Go.IntWalk
set_option maxHeartbeats 8000000
set_option maxRecDepth 20000
set_option linter.unusedVariables false
def Dv.settle1 (d : Dv) (i : Int) (k : Bool) : Dv := (if k = true then d.setLast i (d.late i) else d).setLater i []
def settleF {σ : Type} (step : σ → σ × Bool) (s : Dv × σ) (i : Int) : Dv × σ := (s.1.settle1 i (step s.2).2, (step s.2).1)
def settle {σ : Type} (step : σ → σ × Bool) (s : Dv × σ) (ats : List Int) : Dv × σ := ats.foldl (settleF step) s
theorem settle1_in {d : Dv} {i j : Int} {k : Bool} : (d.settle1 i k).in_ j ↔ d.in_ j := by
 unfold Dv.settle1
 split
 · exact setLater_in.trans setLast_in
 · exact setLater_in
theorem settle1_late {d : Dv} (hd : d.Ok) {i j : Int} {k : Bool} (hi : d.in_ i) (hj : d.in_ j) (hne : i ≠ j) : (d.settle1 i k).late j = d.late j := by
 have hi' : 0 ≤ i ∧ i < d.later.length := by rw [hd.len]; exact hi
 unfold Dv.settle1
 split
 ·
  have : ((d.setLast i (d.late i)).setLater i []).late j = if i = j then [] else (d.setLast i (d.late i)).late j := getD_set hi' hj.1
  rw [this, if_neg hne]
  rfl
 ·
  have : (d.setLater i []).late j = if i = j then [] else d.late j := getD_set hi' hj.1
  rw [this, if_neg hne]
theorem settle1_ok {d : Dv} (hd : d.Ok) {i : Int} {k : Bool} (hi : d.in_ i) (hne : d.late i ≠ []) : (d.settle1 i k).Ok := by
 unfold Dv.settle1
 split
 ·
  rcases hd.late hi with h | h
  · exact absurd h hne
  · exact (hd.setLast h).setLater (.inl rfl)
 · exact hd.setLater (.inl rfl)
structure Still (d : Dv) (ats : List Int) : Prop where
 nd : ats.Nodup
 all : ∀ i ∈ ats, d.in_ i ∧ d.late i ≠ []
theorem laterIn_still (d : Dv) (from_ to : Int) : Still d (d.laterIn from_ to) := by
 refine ⟨(range_nodup _).sublist List.filter_sublist, fun i hi => ?_⟩
 unfold Dv.laterIn at hi
 rw [List.mem_filter, List.mem_map] at hi
 obtain ⟨⟨j, hj, rfl⟩, h2⟩ := hi
 simp only [List.mem_range, decide_eq_true_eq] at hj h2
 exact ⟨⟨by show (0 : Int) ≤ (j : Int); omega, by show (j : Int) < _; omega⟩, h2.2.2⟩
theorem Still.step {d : Dv} (hd : d.Ok) {i : Int} {l : List Int} (h : Still d (i :: l)) (k : Bool) : Still (d.settle1 i k) l := by
 obtain ⟨h1, h2⟩ := h
 rw [List.nodup_cons] at h1
 refine ⟨h1.2, fun j hj => ?_⟩
 obtain ⟨g1, g2⟩ := h2 j (List.mem_cons_of_mem _ hj)
 have hi := (h2 i List.mem_cons_self).1
 have hne : i ≠ j := by rintro rfl; exact h1.1 hj
 exact ⟨settle1_in.2 g1, by rw [settle1_late hd hi g1 hne]; exact g2⟩
theorem settle_all {σ : Type} (step : σ → σ × Bool) : ∀ (l : List Int) (s : Dv × σ), s.1.Ok → Still s.1 l → ∀ j, j ≤ l.length → (settle step s (l.take j)).1.Ok ∧ Still (settle step s (l.take j)).1 (l.drop j)
 | [], s, hd, hs, j, hj => by
  have : j = 0 := by simpa using hj
  subst this
  exact ⟨hd, hs⟩
 | i :: l, s, hd, hs, 0, _ => ⟨hd, hs⟩
 | i :: l, s, hd, hs, j + 1, hj => by
  have h1 := hs.all i List.mem_cons_self
  exact settle_all step l (settleF step s i) (settle1_ok hd h1.1 h1.2) (hs.step hd _) j (by simpa using hj)
theorem settle_next {σ : Type} (step : σ → σ × Bool) (s : Dv × σ) {ats : List Int} {j : Nat} (hj : j < ats.length) : settle step s (ats.take (j + 1)) = settleF step (settle step s (ats.take j)) ats[j] := by
 unfold settle
 rw [List.take_add_one, List.getElem?_eq_getElem hj, Option.toList_some, List.foldl_append]
 rfl
theorem settle_ok {σ : Type} (step : σ → σ × Bool) {s : Dv × σ} (hd : s.1.Ok) {ats : List Int} (hs : Still s.1 ats) : (settle step s ats).1.Ok := by
 have := (settle_all step ats s hd hs ats.length (Nat.le_refl _)).1
 rwa [List.take_length] at this
theorem settle_spec {σ : Type} (step : σ → σ × Bool) (Sat : σ → HL → Prop) (fv : Value)
  (hcall : ∀ s Hs, Sat s Hs → CtrV Tryz.prog fv [] [Hs] [] (fun v L' => ∃ Hs', v = .bool (step s).2 ∧ L' = [Hs'] ∧ Sat (step s).1 Hs'))
  (d : Dv) (hd : d.Ok) (b : Nat) (H : HL) (h : DevAt d b H) (s : σ) (Hs : HL) (hs : Sat s Hs) (from_ to : Int) :
  Ctr Tryz.prog 190 [.pointer (some ⟨b, 0, none⟩), .int .i64 from_, .int .i64 to, fv] [H, Hs] [] (fun v L' => ∃ H' Hs', L' = [H', Hs'] ∧ DevAt (settle step (d, s) (d.laterIn from_ to)).1 b H' ∧ Sat (settle step (d, s) (d.laterIn from_ to)).2 Hs') := by
 have hL := DLater_spec d hd b H h from_ to
 have hst := laterIn_still d from_ to
 have hlen : (d.laterIn from_ to).length ≤ 1024 := by
  unfold Dv.laterIn
  exact Nat.le_trans (List.length_filter_le _ _) (by have := hd.n.2; simpa using this)
 have hall := settle_all step (d.laterIn from_ to) (d, s) hd hst
 generalize d.laterIn from_ to = ats at *
 refine Ctr.enter (n := 38) [] [(0, _), (1, _), (2, _), (3, _)] Tryz.func190 rfl rfl rfl (lb rfl) Tryz.call190 ⟨rfl, rfl, rfl, rfl, trivial⟩ ?_
 intro cx fin fin0
 refine aG ?_
 refine aC (o := hL) (h := ?_)
 rintro _ _ ⟨a, cap, H2, Hz, rfl, rfl, h2, how⟩
 refine aG ?_
 repeat (first | refine gx ?_ | refine gN fun _ => ?_ | refine gB fun _ => ?_ | fail)
 refine aLp (fun k ρ1 L1 => ∃ (j : Nat) (H : HL) (Hs : HL), j ≤ ats.length ∧ k = ats.length - j ∧ DevAt (settle step (d, s) (ats.take j)).1 b H ∧ Sat (settle step (d, s) (ats.take j)).2 Hs ∧ ρ1 = [(15, .int .i64 (j : Int)), (14, .int .i64 (ats.length : Int)), (13, .slice a ats.length cap), (3, fv), (0, .pointer (some ⟨b, 0, none⟩))] ∧ L1 = [H, Hz, Hs]) (o := ⟨0, H2, Hs, Nat.zero_le _, rfl, h2, hs, rfl, rfl⟩) (h := ?_)
 rintro k ρ1 L1 ⟨j, H3, Hs3, hj, rfl, h3, hs3, rfl, rfl⟩
 refine aG ?_
 by_cases hlt : j < ats.length
 ·
  have hz : (j : Int) < (ats.length : Int) := by omega
  have hnx := settle_next step (d, s) hlt
  obtain ⟨hok, hsti⟩ := hall j hj
  have hi := hsti.all ats[j] (by rw [List.drop_eq_getElem_cons hlt]; exact List.mem_cons_self)
  obtain ⟨bx, ox, lx, ex, frx, rfl, rfl, -, hld⟩ := RoSl.at (f := fun x : Int => [Value.int .i64 x]) (m := 1) (fun _ => rfl) (Own.roSl how) hlt
  have l0 : lx[ox + j * 1]? = some (.int .i64 ats[j]) := hld 0 (by decide)
  generalize ats[j] = q at *
  generalize settle step (d, s) (ats.take j) = t at *
  have hc := hcall t.2 Hs3 hs3
  obtain ⟨bl, bt, ah, ch, tl, tt, Hl, Ht, D, rfl, hml, hmt, hr, hh⟩ := h3
  obtain ⟨c, hg⟩ : ∃ c, mget tt q = some c := by
   cases hg : mget tt q with
   | none =>
    have := hr.later q hi.1
    rw [hg] at this
    exact absurd this hi.2
   | some c => exact ⟨c, rfl⟩
  have hlc : t.1.late q = c.xs := by rw [hr.later q hi.1, hg]
  obtain ⟨-, h20⟩ := hr.keys q c hg
  repeat (first | refine gh hz ?_ | refine gN fun _ => ?_ | refine gB fun _ => ?_ | fail)
  refine aV (OpVal.ixI tab_ok rfl rfl rfl rfl rfl hlt) ?_
  refine aV (OpVal.load tab_ok rfl (at_own 1 rfl) l0) ?_
  refine aCV (o := hc) (h := ?_)
  rintro _ _ ⟨Hs4, rfl, rfl, hs4⟩
  refine aG ?_
  refine W.order [1, 1, 0] rfl ?_
  refine W.split4 rfl ?_
  refine aG ?_
  have hset : (settleF step t q).1 = t.1.settle1 q (step t.2).2 := rfl
  have hset2 : (settleF step t q).2 = (step t.2).1 := rfl
  rw [← hnx] at hset hset2
  generalize ht2 : settle step (d, s) (ats.take (j + 1)) = t2 at *
  rw [← hset2] at hs4
  generalize (step t.2).2 = kb at *
  have hmq := hmt
  obtain ⟨es, clock, rfl, hm, hbc, hbn⟩ := hmt
  have hcu : c.xs.length = 20 ∧ u8ok c.xs := by
   rcases hok.late hi.1 with h0 | h0
   · exact absurd h0 hi.2
   · rwa [hlc] at h0
  cases kb
  case' true =>
   have hs1 : t2.1 = (t.1.setLast q c.xs).setLater q [] := by rw [hset, ← hlc]; rfl
   have hr2 := (hr.putl hi.1 (hr.int q c hg)).del (hok.setLast hcu) (setLast_in.2 hi.1)
   repeat (first | refine gx ?_ | refine gN fun _ => ?_ | refine gB fun _ => ?_ | fail)
   refine W.drawH tab_ok 11 [.b false, .b false, .b false, .b false, .b false, .b false, .b false, .b false, .b false, .b false, .b false] [] follows (by decide +kernel) (by decide +kernel) rfl (by decide) rfl ?_
   intro _
   refine dG ?_
   refine gdx ?_
   refine dV (OpVal.lookup1 (f := Cl.v) Tryz.underlying234 Tryz.underlying3 rfl rfl (show At _ _ bt (.map es clock) from .inr (by simp)) hm hg) ?_
   refine WD.nil (W.dropNil (aG ?_))
   refine aSkp (mapPut (f := Cl.v) (v := c) Tryz.underlying234 Tryz.underlying3 rfl rfl rfl (by intro p hp; simp [hp]) hml) ?_
   rintro _ ⟨Hl2, rfl, hml2⟩
   refine aG ?_
   refine W.order [1, 0, 0, 0, 0, 0] rfl ?_
  case' false =>
   have hs1 : t2.1 = t.1.setLater q [] := hset
   have hr2 := hr.del hok hi.1
   have hml2 := hml
   repeat (first | refine gx ?_ | refine gN fun _ => ?_ | refine gB fun _ => ?_ | fail)
  all_goals
   have hn2 : t2.1.lasts.length = t.1.lasts.length := by rw [hs1]; simp [Dv.setLater, Dv.setLast]
   have hh2 : t2.1.head = t.1.head := by rw [hs1]; rfl
   rw [← hs1] at hr2
   repeat (first | refine gx ?_ | refine gN fun _ => ?_ | refine gB fun _ => ?_ | fail)
   refine aPu (mqDel (f := Cl.v) Tryz.underlying234 Tryz.underlying3 rfl rfl (by intro p hp; rw [List.mem_singleton.1 hp]; simp) hmq) ?_
   rintro _ _ ⟨Ht2, rfl, hmt2⟩
   refine aG ?_
   repeat (first | refine gx ?_ | refine gN fun _ => ?_ | refine gB fun _ => ?_ | fail)
   refine W.groupV [1, 1, 0, 0] rfl ?_
   have h4 : ∀ X, X = [(b, Obj.cells (List.toArray [.int .i64 t.1.lasts.length, .map (some bl), .map (some bt), .slice ah t.1.head.length ch]) 236 (0, 0))] ++ (_ ++ (Ht2 ++ D)) → DevAt t2.1 b X := fun X hX => ⟨bl, bt, ah, ch, _, _, _, _, D, by rw [hX, hn2, hh2], hml2, hmt2, hr2, by rw [hh2]; exact hh⟩
   refine aG ?_
   refine aR (o := ⟨ats.length - (j + 1), by omega, j + 1, _, Hs4, by omega, rfl, by rw [ht2]; exact h4 _ rfl, by rw [ht2]; exact hs4, rfl, rfl⟩)
 ·
  obtain rfl : j = ats.length := by omega
  repeat (first | refine gx ?_ | refine gN fun _ => ?_ | refine gB fun _ => ?_ | fail)
  rw [List.take_length] at h3 hs3
  refine W.order [0, 1] rfl ?_
  refine fin0 _ _ (FinOk.first 2 .nil rfl ?_)
  exact ⟨_, _, rfl, h3, hs3⟩
end Go.Proofs.YtfpghdcjdnifcaaGreat
namespace Go.Proofs.YtfpghdcjdnifcaaGreat
open Go Go.Sl Go.IntWalk
set_option maxHeartbeats 8000000
set_option maxRecDepth 20000
set_option linter.unusedVariables false
def bls (l : List Bool) : List Value := l.flatMap fun x => [.bool x]
theorem bls_len (l : List Bool) : (bls l).length = l.length := by
 unfold bls
 induction l with
 | nil => rfl
 | cons x l ih => simp [ih]
theorem bls_one (l : List Bool) : allOne (bls l) = true := allOne_of fun v hv => by
 obtain ⟨x, -, hx⟩ := List.mem_flatMap.1 hv
 rw [List.mem_singleton.1 hx]
 rfl
def StAt (bs : List Bool) (b : Nat) (H : HL) : Prop := ∃ (l : List Bool) (at_ : Nat) (a : Option Addr) (cap : Nat) (Hb : HL), at_ ≤ l.length ∧ l.drop at_ = bs ∧ l.length ≤ 140737488351232 ∧ l.length ≤ cap ∧
 H = [(b, Obj.cells (List.toArray [.slice a l.length cap, .int .i64 (at_ : Int)]) 322 (0, 0))] ++ Hb ∧ RoSl 1 (bls l) a l.length Hb
def nextB (bs : List Bool) : List Bool × Bool := (bs.tail, bs.headD false)
theorem SNext_spec (bs : List Bool) (b : Nat) (H : HL) (h : StAt bs b H) : Ctr Tryz.prog 171 [.pointer (some ⟨b, 0, none⟩)] [H] [] (fun v L' => ∃ H', v = .bool (nextB bs).2 ∧ L' = [H'] ∧ StAt (nextB bs).1 b H') := by
 obtain ⟨l, at_, a, cap, Hb, hat, hdr, hl, hc, rfl, hro⟩ := h
 by_cases hlt : at_ < l.length
 ·
  have hz : ¬ (at_ : Int) ≥ (l.length : Int) := by omega
  have hbs : bs = l[at_] :: l.drop (at_ + 1) := by rw [← hdr, List.drop_eq_getElem_cons hlt]
  obtain ⟨bx, ox, lx, ex, frx, rfl, rfl, -, hld⟩ := RoSl.at (f := fun x : Bool => [Value.bool x]) (m := 1) (fun _ => rfl) hro hlt
  have l0 : lx[ox + at_ * 1]? = some (.bool l[at_]) := hld 0 (by decide)
  refine Ctr.enter (n := 31) [.tmp 2] [(0, _)] Tryz.func171 rfl rfl rfl (lb rfl) Tryz.call171 ⟨rfl, trivial⟩ ?_
  intro cx fin fin0
  refine aG ?_
  refine W.split2 rfl ?_
  refine aG ?_
  refine W.drawH tab_ok 10 [.b false, .b false, .b false, .b false, .b false, .b false, .b false, .b false, .b false, .b false] [] follows (by decide +kernel) (by decide +kernel) rfl (by decide) rfl ?_
  intro _
  refine dG ?_
  refine gdx ?_
  refine WD.nil (W.dropNil (aG ?_))
  repeat (first | refine gh hz ?_ | refine gN fun _ => ?_ | refine gB fun _ => ?_ | fail)
  have e1 : (at_ : Int) + 1 - 1 = (at_ : Int) := by omega
  have e2 : (at_ : Int) + 1 = ((at_ + 1 : Nat) : Int) := by omega
  refine W.drawH tab_ok 11 [.b false, .b false, .b false, .b false, .b false, .b false, .b false, .b false, .b false, .b false, .b false] [] follows (by decide +kernel) (by decide +kernel) rfl (by decide) rfl ?_
  intro _
  refine dG ?_
  refine gdx ?_
  refine dV (OpVal.ixI tab_ok rfl rfl rfl rfl e1 hlt) ?_
  refine dV (OpVal.load tab_ok rfl (show At _ _ bx (.cells lx.toArray ex frx) from .inr (by simp)) l0) ?_
  refine WD.nil (W.dropNil (aG ?_))
  repeat (first | refine gx ?_ | refine gN fun _ => ?_ | refine gB fun _ => ?_ | fail)
  rw [e2]
  refine W.groupV [0, 0] rfl ?_
  refine W.ret (fin _ _ (FinOk.first 1 (.tmp rfl .nil) rfl ?_))
  exact ⟨_, by rw [hbs]; rfl, rfl, l, at_ + 1, _, _, _, hlt, by rw [hbs]; rfl, hl, hc, rfl, hro⟩
 ·
  have hz : (at_ : Int) ≥ (l.length : Int) := by omega
  have hbs : bs = [] := by rw [← hdr]; exact List.drop_of_length_le (by omega)
  subst hbs
  refine Ctr.enter (n := 31) [.tmp 2] [(0, _)] Tryz.func171 rfl rfl rfl (lb rfl) Tryz.call171 ⟨rfl, trivial⟩ ?_
  intro cx fin fin0
  refine aG ?_
  refine W.split2 rfl ?_
  refine aG ?_
  refine W.drawH tab_ok 10 [.b false, .b false, .b false, .b false, .b false, .b false, .b false, .b false, .b false, .b false] [] follows (by decide +kernel) (by decide +kernel) rfl (by decide) rfl ?_
  intro _
  refine dG ?_
  refine gdx ?_
  refine WD.nil (W.dropNil (aG ?_))
  repeat (first | refine gh hz ?_ | refine gN fun _ => ?_ | refine gB fun _ => ?_ | fail)
  refine W.groupV [0, 0] rfl ?_
  refine W.ret (fin _ _ (FinOk.first 1 (.tmp rfl .nil) rfl ?_))
  exact ⟨_, rfl, rfl, l, at_, _, _, _, hat, hdr, hl, hc, rfl, hro⟩
theorem SNew_spec (l : List Bool) (hl : l.length ≤ 140737488351232) (a : Option Addr) (cap : Nat) (ro : HL) (hro : RoSl 1 (bls l) a l.length ro) :
  Ctr Tryz.prog 148 [.slice a l.length cap] [] ro (fun v L' => ∃ b H, v = .pointer (some ⟨b, 0, none⟩) ∧ L' = [H] ∧ StAt l b H) := by
 have hrep : ∀ n, repL n [Value.bool false] = List.replicate n (Value.bool false) := fun n => by
  induction n with
  | zero => rfl
  | succ n ih => rw [List.replicate_succ, ← ih]; rfl
 have hAdd : ∀ b, Ctr Tryz.prog 210 [.pointer (some ⟨b, 0, none⟩), .slice a l.length cap] [[(b, .cells #[.slice none 0 0, .int .i64 0] 322 (0, 0))]] ro (fun _ L' => ∃ H, L' = [H] ∧ StAt l b H) := fun b => by
  refine Ctr.enter (n := 33) [] [(0, _), (1, _)] Tryz.func210 rfl rfl rfl (lb rfl) Tryz.call210 ⟨rfl, rfl, trivial⟩ ?_
  intro cx fin fin0
  refine aG ?_
  repeat (first | refine gx ?_ | refine gN fun _ => ?_ | refine gB fun _ => ?_ | fail)
  have e1 : ((0 : Nat) : Int) + (l.length : Int) = (l.length : Int) := by omega
  refine aW (NewOf.mks (bytes := 1) (len := l.length) (cap := l.length) tab_ok rfl rfl rfl rfl rfl rfl rfl e1 e1 (Nat.le_refl _) (by omega) (by omega)) ?_
  intro b4
  rw [hrep]
  refine aG ?_
  repeat (first | refine gx ?_ | refine gN fun _ => ?_ | refine gB fun _ => ?_ | fail)
  refine aPr (copyTo (q := 0) (cs := bls []) tab_ok rfl rfl rfl rfl ⟨rfl, .inl ⟨rfl, rfl⟩⟩ (fun p hp => by cases hp) (List.mem_append_left _ (List.mem_singleton.2 rfl)) rfl (Nat.zero_min _) (by simp)) ?_
  rintro _ _ ⟨rfl, rfl⟩
  refine aG ?_
  have c0 : (List.replicate l.length (Value.bool false)).take 0 ++ (bls []).take (0 * 1) ++ (List.replicate l.length (Value.bool false)).drop (0 + 0 * 1) = List.replicate l.length (Value.bool false) := by simp
  rw [c0]
  repeat (first | refine gx ?_ | refine gN fun _ => ?_ | refine gB fun _ => ?_ | fail)
  refine aV (OpVal.pieceG (l := 0) (h := l.length) (c := l.length) tab_ok rfl rfl rfl ⟨_, rfl⟩ ⟨rfl, rfl⟩ rfl (by omega) (by omega) (by omega)) ?_
  have hoff : (if l.length = 0 then 0 else 0 + 0 * 1) = 0 := by split <;> rfl
  rw [hoff]
  refine aPr (copyTo (q := l.length) (cs := bls l) tab_ok rfl rfl rfl rfl hro (fun q hq => .inr hq) (List.mem_append_left _ (List.mem_singleton.2 rfl)) (bls_one l) (by omega) (by simp)) ?_
  rintro _ _ ⟨rfl, rfl⟩
  refine aG ?_
  have c1 : (List.replicate l.length (Value.bool false)).take 0 ++ (bls l).take (l.length * 1) ++ (List.replicate l.length (Value.bool false)).drop (0 + l.length * 1) = bls l := by
   rw [Nat.mul_one, ← bls_len l, List.take_length]
   simp [bls_len]
  rw [c1]
  repeat (first | refine gx ?_ | refine gN fun _ => ?_ | refine gB fun _ => ?_ | fail)
  refine W.groupV [1, 0] rfl ?_
  refine fin0 _ _ (FinOk.first 1 .nil rfl ?_)
  exact ⟨_, rfl, l, 0, _, _, _, Nat.zero_le _, rfl, hl, Nat.le_refl _, rfl, by rw [bls_len, Nat.mul_one], .inr ⟨b4, 0, bls l, _, _, rfl, rfl, by rw [bls_len]; omega, by rw [List.drop_zero, Nat.mul_one, ← bls_len l, List.take_length]⟩⟩
 refine Ctr.enter (n := 10) [.tmp 2] [(0, _)] Tryz.func148 rfl rfl rfl (lb rfl) Tryz.call148 ⟨rfl, trivial⟩ ?_
 intro cx fin fin0
 refine aG ?_
 refine aBu (ps := []) ?_
 repeat (first | refine gx ?_ | refine gN fun _ => ?_ | refine gB fun _ => ?_ | fail)
 rename_i b3
 refine aC (o := hAdd b3) (h := ?_)
 rintro _ _ ⟨H, rfl, hst⟩
 refine aG ?_
 repeat (first | refine gx ?_ | refine gN fun _ => ?_ | refine gB fun _ => ?_ | fail)
 refine W.ret (fin _ _ (FinOk.first 1 (.tmp rfl .nil) rfl ?_))
 exact ⟨_, _, rfl, rfl, hst⟩
theorem Barrier1_spec : Ctr Tryz.prog 233 [] [] [] (fun v L' => v = .bool true ∧ L' = []) := by
 refine Ctr.enter (n := 1) [.tmp 0] [] Tryz.func233 rfl rfl rfl (lb rfl) Tryz.call233 trivial ?_
 intro cx fin fin0
 refine aG ?_
 repeat (first | refine gx ?_ | refine gN fun _ => ?_ | refine gB fun _ => ?_ | fail)
 refine W.ret (fin _ _ (FinOk.mk' ([]) (.tmp rfl .nil) (by repeat (first | exact Sel.nil | (apply Sel.cons; (repeat (first | exact Pick.here | apply Pick.there))))) rfl ?_))
 exact ⟨rfl, rfl⟩
def allB (_ : Unit) : Unit × Bool := ((), true)
def Dv.barrier (d : Dv) (from_ to : Int) : Dv := (settle allB (d, ()) (d.laterIn from_ to)).1
theorem barrier_ok {d : Dv} (hd : d.Ok) (from_ to : Int) : (d.barrier from_ to).Ok := settle_ok allB (s := (d, ())) hd (laterIn_still d from_ to)
theorem DBarrier_spec (d : Dv) (hd : d.Ok) (b : Nat) (H : HL) (h : DevAt d b H) (from_ to : Int) :
  Ctr Tryz.prog 175 [.pointer (some ⟨b, 0, none⟩), .int .i64 from_, .int .i64 to] [H] [] (fun _ L' => ∃ H', L' = [H'] ∧ DevAt (d.barrier from_ to) b H') := by
 have hS := settle_spec allB (fun _ Hs => Hs = []) (.func (.func 233) #[] #[]) (fun s Hs hs => by
  subst hs
  refine Ctr.v (fst := []) (cap := []) (Barrier1_spec.frame [[]] |>.post ?_) rfl
  rintro v _ ⟨_, rfl, rfl, rfl⟩
  exact ⟨[], rfl, rfl, rfl⟩) d hd b H h () [] rfl from_ to
 refine Ctr.enter (n := 10) [] [(0, _), (1, _), (2, _)] Tryz.func175 rfl rfl rfl (lb rfl) Tryz.call175 ⟨rfl, rfl, rfl, trivial⟩ ?_
 intro cx fin fin0
 refine aG ?_
 refine W.nilChunk ?_
 refine aC (o := hS) (h := ?_)
 rintro _ _ ⟨H2, Hs2, rfl, h2, -⟩
 refine aG ?_
 refine fin0 _ _ (FinOk.first 1 .nil rfl ?_)
 exact ⟨_, rfl, h2⟩
end Go.Proofs.YtfpghdcjdnifcaaGreat
