/-
  Loading pages: frame.Load, part.Find, forget, Load.
-/
import Derived.Test.YtgipjpiiomgjjaaPe
import Derived.Test.YtgipjpiiomgjjaaSt
namespace Go.Proofs.Ytgipjpiiomgjjaa
open Go Go.Sl Go.IntWalk
set_option maxHeartbeats 2000000
set_option maxRecDepth 20000
def Fr.load (page : Int) (bs : List Int) : Fr := ⟨true, false, false, 0, page, bs⟩
theorem lay_frame (page : Int) {bs : List Int} (h : bs.length = 32) :
    lay? Fr.zero.l [(0, [.bool true, .bool false, .bool false, .int .i64 0]), (4, [.int .i64 page]), (5, bs.map (.int .u8))] = some (Fr.load page bs).l := by
  have e : lay? Fr.zero.l [(0, [.bool true, .bool false, .bool false, .int .i64 0]), (4, [.int .i64 page]), (5, bs.map (.int .u8))] =
      (match splice? (.bool true :: .bool false :: .bool false :: .int .i64 0 :: .int .i64 page :: (List.replicate 32 (0 : Int)).map (.int .u8)) 5 (bs.map (.int .u8)) with | some l' => some l' | none => none) := rfl
  rw [e, splice?_of _ _ _ (by simp [h])]
  simp [Fr.l, Fr.load, h]
/-- A frame in the midst of a row of frames. -/
theorem FLoad_spec (f : Fr) (hf : f.Ok) (A B : List Value) (bf off : Nat) (hA : A.length = off) (page : Int) (bs : List Int) (ab : Option Addr) (cb : Nat) (rb : HL) (hrb : RoSl 1 (u8s bs) ab bs.length rb) :
    Ctr Try.prog 55 [.pointer (some ⟨bf, off, none⟩), .int .i64 page, .slice ab bs.length cb] [[(bf, .cells (A ++ f.l ++ B).toArray 58 (0, 0))]] rb
      (fun v L' => (bs.length ≠ 32 ∧ v = .int .i64 2 ∧ L' = [[(bf, .cells (A ++ f.l ++ B).toArray 58 (0, 0))]]) ∨
        (bs.length = 32 ∧ v = .int .i64 0 ∧ L' = [[(bf, .cells (A ++ (Fr.load page bs).l ++ B).toArray 58 (0, 0))]])) := by
  refine Ctr.enter (n := 18) [.tmp 6] [(0, _), (1, _), (2, _)] Try.func55 rfl rfl rfl (lb rfl) Try.call55 ⟨rfl, rfl, rfl, trivial⟩ ?_
  intro cx fin fin0
  refine aG ?_
  by_cases h : bs.length = 32
  · refine aF ?_ (hb := by exact gd h)
    rcases hrb.2 with ⟨h0, _⟩ | ⟨bx, ox, lx, ex, frx, rfl, rfl, hlx, hcx⟩
    · omega
    have hld : seg? lx ox 32 = some (bs.map (.int .u8)) := by
      rw [seg?_of _ _ _ (by omega), ← u8s_map, ← hcx, h]
    have hnew : (Fr.load page bs).Ok := h
    refine aV (OpVal.build (ps := [_]) tab_ok rfl rfl rfl rfl (by repeat (first | exact trivial | refine ⟨⟨_, _, _, rfl, rfl, rfl⟩, ?_⟩)) rfl) ?_
    refine aV (OpVal.slAr tab_ok rfl rfl (by omega)) ?_
    refine aV (OpVal.loadN ty_56.1 ty_56.2 rfl (at_ro 0 rfl) hld) ?_
    refine aV (OpVal.build (ps := [_, _, _]) (zs := Fr.zero.l) (q := [(0, [.bool true, .bool false, .bool false, .int .i64 0]), (4, [.int .i64 page]), (5, bs.map (.int .u8))]) tab_ok rfl rfl rfl rfl ⟨⟨_, _, _, rfl, rfl, rfl⟩, ⟨_, _, _, rfl, rfl, rfl⟩, ⟨_, bs.map (.int .u8), _, rfl, rfl, by simp [h]; rfl⟩, trivial⟩ (lay_frame page h)) ?_
    refine W.store tab_ok rfl Upd.here rfl rfl rfl (Fr.l_len hnew) (Fr.l_one _) (splice_mid (o := 0) hA (store_all hnew (Fr.l_len hf))) (W.step tab_ok rfl rfl ?_)
    refine W.ret (fin _ _ (FinOk.first 1 (.tmp rfl .nil) rfl ?_))
    exact .inr ⟨h, rfl, rfl⟩
  · refine aT ?_ (hb := by simp; omega)
    refine W.ret (fin _ _ (FinOk.first 1 (.tmp rfl .nil) rfl ?_))
    exact .inl ⟨h, rfl, rfl⟩
theorem Find_spec (p : Pt) (b : Nat) (H : HL) (hp : PtAt p b H) (page : Int) : Ctr Try.prog 51 [.pointer (some ⟨b, 0, none⟩), .int .i64 page] [] H
    (fun v L' => v = .tuple #[.int .i64 ((mget p.tbl page).getD 0), .bool (mget p.tbl page).isSome] ∧ L' = []) := by
  obtain ⟨bf, bm, es, clock, rfl, hm⟩ := hp
  refine Ctr.enter (n := 19) [.tmp 4, .tmp 5] [(0, _), (1, _)] Try.func51 rfl rfl rfl (lb rfl) Try.call51 ⟨rfl, rfl, trivial⟩ ?_
  intro cx fin fin0
  refine aG ?_
  repeat (first | refine gw ?_ | refine gN fun _ => ?_ | refine gB fun _ => ?_ | fail)
  refine aV (OpVal.lookup2 Try.underlying95 Try.underlying3 ze_3 rfl rfl (at_ro 2 rfl) hm) ?_
  refine W.ret (fin _ _ (FinOk.mk' ([]) (.tmp rfl (.tmp rfl .nil)) (by repeat (first | exact Sel.nil | (apply Sel.cons; (repeat (first | exact Pick.here | apply Pick.there))))) rfl ?_))
  refine ⟨?_, rfl⟩
  cases mget p.tbl page <;> rfl
theorem frame_get {fs : List Fr} (h : ∀ f ∈ fs, f.Ok) {i : Nat} (hi : i < fs.length) {o : Nat} (ho : o < 37) : (flat fs)[0 + i * 37 + o]? = (fs[i].l)[o]? := by
  rw [flat_split hi]
  exact get_mid (by rw [take_flat_len h (Nat.le_of_lt hi)]; omega) (by rw [Fr.l_len (h _ (List.getElem_mem hi))]; exact ho)
def Pt.forget (p : Pt) (i : Nat) : Pt := { p with tbl := if (p.at_ i).used then mdel p.tbl (p.at_ i).page else p.tbl }
theorem forget_spec (p : Pt) (hpo : p.Ok) (b : Nat) (H : HL) (hp : PtAt p b H) (i : Nat) (hi : i < p.fs.length) : Ctr Try.prog 54 [.pointer (some ⟨b, 0, none⟩), .int .i64 (i : Int)] [H] []
    (fun _ L' => ∃ H', L' = [H'] ∧ PtAt (p.forget i) b H') := by
  obtain ⟨bf, bm, es, clock, rfl, hm⟩ := hp
  have hat := Pt.at_nat hi
  have hu : (flat p.fs)[0 + i * 37]? = some (.bool p.fs[i].used) := frame_get hpo.1 hi (o := 0) (by decide)
  have hg : (flat p.fs)[0 + i * 37 + 4]? = some (.int .i64 p.fs[i].page) := frame_get hpo.1 hi (o := 4) (by decide)
  have hft : (p.forget i).tbl = if p.fs[i].used then mdel p.tbl p.fs[i].page else p.tbl := by unfold Pt.forget; rw [hat]
  generalize p.fs[i] = f at hu hg hft
  refine Ctr.enter (n := 25) [] [(0, _), (1, _)] Try.func54 rfl rfl rfl (lb rfl) Try.call54 ⟨rfl, rfl, trivial⟩ ?_
  intro cx fin fin0
  refine aG ?_
  refine W.split 0 rfl ?_
  refine aG ?_
  repeat (first | refine gw ?_ | refine gN fun _ => ?_ | refine gB fun _ => ?_ | fail)
  refine aV (OpVal.ixSl tab_ok rfl rfl rfl rfl rfl hi) ?_
  refine aV (OpVal.load tab_ok rfl (at_own 1 rfl) hu) ?_
  by_cases hus : f.used = true
  · refine aT ?_ (hb := by exact hus)
    refine W.drawTail 12 follows (by decide +kernel) (zG ?_)
    repeat (first | refine zL ?_ | fail)
    refine zV (OpVal.ixSl tab_ok rfl rfl rfl rfl rfl hi) ?_
    refine zV (OpVal.load tab_ok rfl (at_own 1 rfl) hg) ?_
    refine WZ.nil (aG ?_)
    refine aPu (mapDel (f := Value.int .i64) (m := p.tbl) (H := [(bm, .map es clock)]) Try.underlying95 Try.underlying3 rfl rfl (by intro p hp; simp [hp]) ⟨es, clock, rfl, hm⟩) ?_
    rintro _ _ ⟨_, rfl, es2, clock2, rfl, hm2⟩
    refine aG ?_
    refine W.group [1, 1, 0] rfl rfl ?_
    refine fin0 _ _ (FinOk.first 1 .nil rfl ?_)
    refine ⟨_, rfl, bf, bm, es2, clock2, rfl, ?_⟩
    rw [hft, if_pos hus]
    exact hm2
  · refine aF ?_ (hb := by simpa using hus)
    refine W.group [0, 0, 0] rfl rfl ?_
    refine fin0 _ _ (FinOk.first 1 .nil rfl ?_)
    refine ⟨_, rfl, bf, bm, es, clock, rfl, ?_⟩
    rw [hft, if_neg hus]
    exact hm
def Pt.mayLoad (p : Pt) (i page : Int) : Bool := decide (0 ≤ i ∧ i < p.fs.length) && (match mget p.tbl page with | some own => decide (own = i) | none => true)
def Pt.load (p : Pt) (i page : Int) (bs : List Int) : Pt × Int :=
  if p.mayLoad i page = true then (if bs.length = 32 then (⟨p.fs.set i.toNat (Fr.load page bs), mput (p.forget i.toNat).tbl page i, p.hand⟩, 0) else (p, 2)) else (p, 1)
theorem Load_spec (p : Pt) (hpo : p.Ok) (b : Nat) (H : HL) (hp : PtAt p b H) (i page : Int) (bs : List Int) (ab : Option Addr) (cb : Nat) (rb : HL) (hrb : RoSl 1 (u8s bs) ab bs.length rb) :
    Ctr Try.prog 34 [.pointer (some ⟨b, 0, none⟩), .int .i64 i, .int .i64 page, .slice ab bs.length cb] [H] rb
      (fun v L' => v = .int .i64 (p.load i page bs).2 ∧ ∃ H', L' = [H'] ∧ PtAt (p.load i page bs).1 b H') := by
  have hF := Find_spec p b H hp page
  have hI := pin_spec p b H hp i
  by_cases hin : 0 ≤ i ∧ i < p.fs.length
  · by_cases hmay : p.mayLoad i page = true
    · obtain ⟨x, has, hxi, hF2⟩ : ∃ (x : Int) (has : Bool), (has = true → x = i) ∧ Ctr Try.prog 51 [.pointer (some ⟨b, 0, none⟩), .int .i64 page] [] H (fun v L' => v = .tuple #[.int .i64 x, .bool has] ∧ L' = []) := by
        refine ⟨_, _, ?_, hF⟩
        intro hs
        unfold Pt.mayLoad at hmay
        cases hg : mget p.tbl page with
        | none => rw [hg] at hs; cases hs
        | some own => rw [hg] at hmay; simp at hmay; simp [hmay.2]
      obtain ⟨j, rfl⟩ : ∃ j : Nat, i = (j : Int) := ⟨i.toNat, by omega⟩
      have hj : j < p.fs.length := by omega
      have hforget := forget_spec p hpo b H hp j hj
      have hsp := flat_split hj
      have hset := flat_set hj (Fr.load page bs)
      have hfo := hpo.1 _ (List.getElem_mem hj)
      have hA : (flat (p.fs.take j)).length = 0 + j * 37 := by rw [take_flat_len hpo.1 (Nat.le_of_lt hj)]; omega
      generalize p.fs[j] = f at hsp hfo
      have hfl := FLoad_spec f hfo (flat (p.fs.take j)) (flat (p.fs.drop (j + 1))) 
      refine Ctr.enter (n := 50) [.tmp 8] [(0, _), (1, _), (2, _), (3, _)] Try.func34 rfl rfl rfl (lb rfl) Try.call34 ⟨rfl, rfl, rfl, rfl, trivial⟩ ?_
      intro cx fin fin0
      refine aG ?_
      refine aC (o := hF2) (h := ?_)
      rintro _ _ ⟨rfl, rfl⟩
      refine aG ?_
      refine aC (o := hI) (h := ?_)
      rintro _ _ ⟨rfl, rfl⟩
      refine aG ?_
      have go : ∀ (ρ : Env), True := fun _ => trivial
      cases has
      all_goals
        try (have hx := hxi rfl; subst hx)
        repeat (first | (refine W.isGuard ?_; first | refine aGo ?_ (hw := by first | rfl | exact gd hin | (simp; omega)) | refine aSk ?_ (hw := by first | rfl | exact gd hin | (simp; omega)) | refine aUn ?_) | (refine W.isPick ?_; first | refine aPT ?_ (hb := by first | rfl | exact gd hin | (simp; omega)) | refine aPF ?_ (hb := by first | rfl | exact gd hin | (simp; omega))) | (refine W.isBin ?_; first | refine aV (OpVal.neBool tab_ok rfl rfl rfl) ?_ | refine aV (OpVal.eqBool tab_ok rfl rfl rfl) ?_ | refine aV (OpVal.eqNil tab_ok rfl rfl rfl) ?_ | refine aV (OpVal.neNil tab_ok rfl rfl rfl) ?_) | fail)
        refine aF ?_ (hb := by first | rfl | exact gd hin | (simp; omega))
        by_cases hlen : bs.length = 32
        · have hl : p.load (j : Int) page bs = (⟨p.fs.set j (Fr.load page bs), mput (p.forget j).tbl page j, p.hand⟩, 0) := by
            unfold Pt.load
            rw [if_pos hmay, if_pos hlen, Int.toNat_natCast]
          refine aF ?_ (hb := by exact gd hlen)
          refine aC (o := hforget) (h := ?_)
          rintro _ _ ⟨H2, rfl, hp2⟩
          refine aG ?_
          have hp3 : PtAtF p.fs (p.forget j).tbl p.hand b H2 := hp2
          obtain ⟨bf, bm, es, clock, rfl, hm⟩ := hp3
          refine W.split 0 rfl ?_
          refine aG ?_
          repeat (first | refine gw ?_ | refine gN fun _ => ?_ | refine gB fun _ => ?_ | fail)
          refine aSkp (mapPut (f := Value.int .i64) (m := (p.forget j).tbl) (v := (j : Int)) (H := [(bm, .map es clock)]) Try.underlying95 Try.underlying3 rfl rfl rfl (by intro p hp; simp [hp]) ⟨es, clock, rfl, hm⟩) ?_
          rintro _ ⟨_, rfl, es2, clock2, rfl, hm2⟩
          refine aG ?_
          repeat (first | refine gw ?_ | refine gN fun _ => ?_ | refine gB fun _ => ?_ | fail)
          refine aV (OpVal.ixSl tab_ok rfl rfl rfl rfl rfl hj) ?_
          rw [hsp]
          refine aC (o := hfl bf (0 + j * 37) hA page bs ab cb rb hrb) (h := ?_)
          rintro _ _ (⟨hno, rfl, rfl⟩ | ⟨_, rfl, rfl⟩)
          · exact absurd hlen hno
          · rw [← hset]
            refine aG ?_
            refine W.group [2, 0, 0] rfl rfl ?_
            refine W.ret (fin _ _ (FinOk.first 1 (.tmp rfl .nil) rfl ?_))
            rw [hl]
            have hsl : (p.fs.set j (Fr.load page bs)).length = p.fs.length := by simp
            refine ⟨rfl, _, rfl, bf, bm, es2, clock2, ?_, hm2⟩
            rw [hsl]
        · have hl : p.load (j : Int) page bs = (p, 2) := by
            unfold Pt.load
            rw [if_pos hmay, if_neg hlen]
          refine aT ?_ (hb := by simp; omega)
          refine W.ret (fin _ _ (FinOk.first 1 (.tmp rfl .nil) rfl ?_))
          rw [hl]
          exact ⟨rfl, _, rfl, hp⟩
    · obtain ⟨own, hg, hne⟩ : ∃ own, mget p.tbl page = some own ∧ own ≠ i := by
        unfold Pt.mayLoad at hmay
        cases hg : mget p.tbl page with
        | none => rw [hg] at hmay; simp [hin] at hmay
        | some own => rw [hg] at hmay; exact ⟨own, rfl, fun h => hmay (by simp [hin, h])⟩
      rw [hg] at hF
      have : p.load i page bs = (p, 1) := by unfold Pt.load; rw [if_neg hmay]
      rw [this]
      refine Ctr.enter (n := 50) [.tmp 8] [(0, _), (1, _), (2, _), (3, _)] Try.func34 rfl rfl rfl (lb rfl) Try.call34 ⟨rfl, rfl, rfl, rfl, trivial⟩ ?_
      intro cx fin fin0
      refine aG ?_
      refine aC (o := hF) (h := ?_)
      rintro _ _ ⟨rfl, rfl⟩
      refine aG ?_
      refine aC (o := hI) (h := ?_)
      rintro _ _ ⟨rfl, rfl⟩
      refine aG ?_
      repeat (first | (refine W.isGuard ?_; first | refine aGo ?_ (hw := by first | rfl | exact gd hin | exact gd hne | (simp; omega)) | refine aSk ?_ (hw := by first | rfl | exact gd hin | exact gd hne | (simp; omega)) | refine aUn ?_) | (refine W.isPick ?_; first | refine aPT ?_ (hb := by first | rfl | exact gd hin | exact gd hne | (simp; omega)) | refine aPF ?_ (hb := by first | rfl | exact gd hin | exact gd hne | (simp; omega))) | (refine W.isBin ?_; first | refine aV (OpVal.neBool tab_ok rfl rfl rfl) ?_ | refine aV (OpVal.eqBool tab_ok rfl rfl rfl) ?_ | refine aV (OpVal.eqNil tab_ok rfl rfl rfl) ?_ | refine aV (OpVal.neNil tab_ok rfl rfl rfl) ?_) | fail)
      refine aT ?_ (hb := by first | rfl | exact gd hin | exact gd hne | (simp; omega))
      refine W.ret (fin _ _ (FinOk.first 1 (.tmp rfl .nil) rfl ?_))
      exact ⟨rfl, _, rfl, hp⟩
  · have : p.load i page bs = (p, 1) := by unfold Pt.load Pt.mayLoad; rw [if_neg (by simp [hin])]
    rw [this]
    refine Ctr.enter (n := 50) [.tmp 8] [(0, _), (1, _), (2, _), (3, _)] Try.func34 rfl rfl rfl (lb rfl) Try.call34 ⟨rfl, rfl, rfl, rfl, trivial⟩ ?_
    intro cx fin fin0
    refine aG ?_
    refine aC (o := hF) (h := ?_)
    rintro _ _ ⟨rfl, rfl⟩
    refine aG ?_
    refine aC (o := hI) (h := ?_)
    rintro _ _ ⟨rfl, rfl⟩
    refine aG ?_
    repeat (first | (refine W.isGuard ?_; first | refine aGo ?_ (hw := by first | rfl | exact gd hin | (simp; omega)) | refine aSk ?_ (hw := by first | rfl | exact gd hin | (simp; omega)) | refine aUn ?_) | (refine W.isPick ?_; first | refine aPT ?_ (hb := by first | rfl | exact gd hin | (simp; omega)) | refine aPF ?_ (hb := by first | rfl | exact gd hin | (simp; omega))) | (refine W.isBin ?_; first | refine aV (OpVal.neBool tab_ok rfl rfl rfl) ?_ | refine aV (OpVal.eqBool tab_ok rfl rfl rfl) ?_ | refine aV (OpVal.eqNil tab_ok rfl rfl rfl) ?_ | refine aV (OpVal.neNil tab_ok rfl rfl rfl) ?_) | fail)
    refine aT ?_ (hb := by first | rfl | exact gd hin | (simp; omega))
    refine W.ret (fin _ _ (FinOk.first 1 (.tmp rfl .nil) rfl ?_))
    exact ⟨rfl, _, rfl, hp⟩
end Go.Proofs.Ytgipjpiiomgjjaa
