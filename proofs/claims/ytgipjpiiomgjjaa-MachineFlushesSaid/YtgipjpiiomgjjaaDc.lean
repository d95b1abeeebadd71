/-
  The document's Do: Pin, Unpin, Get, Put of a page; its clock.
-/
import Derived.Test.YtgipjpiiomgjjaaDb
-- short
namespace Go.Proofs.Ytgipjpiiomgjjaa
open Go Go.Sl Go.IntWalk
set_option maxHeartbeats 4000000
set_option maxRecDepth 20000
theorem RDo0_spec (p : Pt) (hi : p.Inv) (v : Value) (D : HL) (hd : DocIn p.fs p.hand v D) (page : Int) :
    Ctr Try.prog 45 [v, .int .i64 0, .int .i64 page, .int .i64 0, .int .i64 0, .slice none 0 0] [] D (fun v' L' => ∃ H v1, L' = [H] ∧ v' = .tuple #[v1, .slice none 0 0, .int .i64 (p.doPage page Fr.pin).2] ∧ DocIn (p.doPage page Fr.pin).1.fs p.hand v1 (H ++ D)) := by
  have hF := RFindP_spec p hi p.hand v D hd page
  have hW := fun j hj f => RWith_spec p.fs hi.ok.2.1 hi.ok.2.2 p.hand v D hd j hj f
  have hd' := hd
  obtain ⟨a, cap, ro, rfl, hro, hsub⟩ := hd'
  have hkeep : DocIn p.fs p.hand (.agg #[.slice a p.fs.length cap, .int .i64 p.hand]) ([] ++ D) := hd
  have hsmall := hi.ok.2.2
  cases hg : mget p.tbl page with
  | none =>
    rw [hg] at hF
    refine Ctr.enter (n := 68) [.cell 12 33, .tmp 13, .tmp 14] [(0, _), (1, _), (2, _), (3, _), (4, _), (5, _)] Try.func45 rfl rfl rfl (lb rfl) Try.call45 ⟨rfl, rfl, rfl, rfl, rfl, rfl, trivial⟩ ?_
    intro cx fin fin0
    refine aG ?_
    repeat (first | refine gw ?_ | refine gN fun _ => ?_ | refine gB fun _ => ?_ | fail)
    refine aC (o := hF) (h := ?_) (hro := RoIn.all (fun p hp => by simp [hp]))
    rintro _ _ ⟨rfl, rfl⟩
    refine aG ?_
    repeat (first | refine gx ?_ | refine gN fun _ => ?_ | refine gB fun _ => ?_ | fail)
    refine W.nilChunk ?_
    refine W.ret (fin _ _ (FinOk.first 1 (aRc (.tmp rfl (.tmp rfl .nil))) rfl ?_))
    rw [Pt.doPage_none hg]
    exact ⟨[], _, rfl, rfl, hkeep⟩
  | some i =>
    obtain ⟨j, hj, rfl, hu, hpg⟩ := hi.tbl page i hg
    rw [hg] at hF
    have c1 : ¬ ((j : Int) < 0) := by omega
    have hR := RPin_spec p.fs[j] (hi.good _ (List.getElem_mem hj))
    obtain ⟨bx, ox, lx, ex, frx, rfl, hmem, hseg, hld⟩ := doc_at hro hj
    have hat : ∀ (L : List HL), At D L bx (.cells lx.toArray ex frx) := fun L => .inr (by first | exact hsub _ hmem | simp [hsub _ hmem])
    refine Ctr.enter (n := 68) [.cell 12 33, .tmp 13, .tmp 14] [(0, _), (1, _), (2, _), (3, _), (4, _), (5, _)] Try.func45 rfl rfl rfl (lb rfl) Try.call45 ⟨rfl, rfl, rfl, rfl, rfl, rfl, trivial⟩ ?_
    intro cx fin fin0
    refine aG ?_
    repeat (first | refine gw ?_ | refine gN fun _ => ?_ | refine gB fun _ => ?_ | fail)
    refine aC (o := hF) (h := ?_) (hro := RoIn.all (fun p hp => by simp [hp]))
    rintro _ _ ⟨rfl, rfl⟩
    refine aG ?_
    repeat (first | refine gh c1 ?_ | refine gN fun _ => ?_ | refine gB fun _ => ?_ | fail)
    refine aV (OpVal.ixSl tab_ok rfl rfl rfl rfl rfl hj) ?_
    refine aV (OpVal.loadN ty_43.1 ty_43.2 rfl (hat _) hseg) ?_
    repeat (first | refine gx ?_ | refine gN fun _ => ?_ | refine gB fun _ => ?_ | fail)
    refine aC (o := hR) (h := ?_) (hro := by first | exact RoIn.nil | exact RoIn.all (fun p hp => by simp [hp]))
    rintro _ _ ⟨rfl, rfl⟩
    refine aG ?_
    repeat (first | refine gx ?_ | refine gN fun _ => ?_ | refine gB fun _ => ?_ | fail)
    refine aC (o := hW j hj (p.fs[j].pin).1) (h := ?_) (hro := RoIn.all (fun p hp => by simp [hp]))
    rintro _ _ ⟨H, rfl, a2, c2, r2, rfl, hro2, hsub2⟩
    refine aG ?_
    repeat (first | refine gx ?_ | refine gN fun _ => ?_ | refine gB fun _ => ?_ | fail)
    refine W.ret (fin _ _ (FinOk.first 1 (aRc (.tmp rfl (.tmp rfl .nil))) rfl ?_))
    rw [Pt.doPage_some hj hg]
    exact ⟨H, _, rfl, rfl, a2, c2, r2, rfl, hro2, fun q hq => by simp [hsub2 q hq]⟩
theorem RDo1_spec (p : Pt) (hi : p.Inv) (v : Value) (D : HL) (hd : DocIn p.fs p.hand v D) (page : Int) :
    Ctr Try.prog 45 [v, .int .i64 1, .int .i64 page, .int .i64 0, .int .i64 0, .slice none 0 0] [] D (fun v' L' => ∃ H v1, L' = [H] ∧ v' = .tuple #[v1, .slice none 0 0, .int .i64 (p.doPage page Fr.unpin).2] ∧ DocIn (p.doPage page Fr.unpin).1.fs p.hand v1 (H ++ D)) := by
  have hF := RFindP_spec p hi p.hand v D hd page
  have hW := fun j hj f => RWith_spec p.fs hi.ok.2.1 hi.ok.2.2 p.hand v D hd j hj f
  have hd' := hd
  obtain ⟨a, cap, ro, rfl, hro, hsub⟩ := hd'
  have hkeep : DocIn p.fs p.hand (.agg #[.slice a p.fs.length cap, .int .i64 p.hand]) ([] ++ D) := hd
  have hsmall := hi.ok.2.2
  cases hg : mget p.tbl page with
  | none =>
    rw [hg] at hF
    refine Ctr.enter (n := 68) [.cell 12 33, .tmp 13, .tmp 14] [(0, _), (1, _), (2, _), (3, _), (4, _), (5, _)] Try.func45 rfl rfl rfl (lb rfl) Try.call45 ⟨rfl, rfl, rfl, rfl, rfl, rfl, trivial⟩ ?_
    intro cx fin fin0
    refine aG ?_
    repeat (first | refine gw ?_ | refine gN fun _ => ?_ | refine gB fun _ => ?_ | fail)
    refine aC (o := hF) (h := ?_) (hro := RoIn.all (fun p hp => by simp [hp]))
    rintro _ _ ⟨rfl, rfl⟩
    refine aG ?_
    repeat (first | refine gx ?_ | refine gN fun _ => ?_ | refine gB fun _ => ?_ | fail)
    refine W.nilChunk ?_
    refine W.ret (fin _ _ (FinOk.first 1 (aRc (.tmp rfl (.tmp rfl .nil))) rfl ?_))
    rw [Pt.doPage_none hg]
    exact ⟨[], _, rfl, rfl, hkeep⟩
  | some i =>
    obtain ⟨j, hj, rfl, hu, hpg⟩ := hi.tbl page i hg
    rw [hg] at hF
    have c1 : ¬ ((j : Int) < 0) := by omega
    have hR := RUnpin_spec p.fs[j] (hi.good _ (List.getElem_mem hj))
    obtain ⟨bx, ox, lx, ex, frx, rfl, hmem, hseg, hld⟩ := doc_at hro hj
    have hat : ∀ (L : List HL), At D L bx (.cells lx.toArray ex frx) := fun L => .inr (by first | exact hsub _ hmem | simp [hsub _ hmem])
    refine Ctr.enter (n := 68) [.cell 12 33, .tmp 13, .tmp 14] [(0, _), (1, _), (2, _), (3, _), (4, _), (5, _)] Try.func45 rfl rfl rfl (lb rfl) Try.call45 ⟨rfl, rfl, rfl, rfl, rfl, rfl, trivial⟩ ?_
    intro cx fin fin0
    refine aG ?_
    repeat (first | refine gw ?_ | refine gN fun _ => ?_ | refine gB fun _ => ?_ | fail)
    refine aC (o := hF) (h := ?_) (hro := RoIn.all (fun p hp => by simp [hp]))
    rintro _ _ ⟨rfl, rfl⟩
    refine aG ?_
    repeat (first | refine gh c1 ?_ | refine gN fun _ => ?_ | refine gB fun _ => ?_ | fail)
    refine aV (OpVal.ixSl tab_ok rfl rfl rfl rfl rfl hj) ?_
    refine aV (OpVal.loadN ty_43.1 ty_43.2 rfl (hat _) hseg) ?_
    repeat (first | refine gx ?_ | refine gN fun _ => ?_ | refine gB fun _ => ?_ | fail)
    refine aC (o := hR) (h := ?_) (hro := by first | exact RoIn.nil | exact RoIn.all (fun p hp => by simp [hp]))
    rintro _ _ ⟨rfl, rfl⟩
    refine aG ?_
    repeat (first | refine gx ?_ | refine gN fun _ => ?_ | refine gB fun _ => ?_ | fail)
    refine aC (o := hW j hj (p.fs[j].unpin).1) (h := ?_) (hro := RoIn.all (fun p hp => by simp [hp]))
    rintro _ _ ⟨H, rfl, a2, c2, r2, rfl, hro2, hsub2⟩
    refine aG ?_
    repeat (first | refine gx ?_ | refine gN fun _ => ?_ | refine gB fun _ => ?_ | fail)
    refine W.ret (fin _ _ (FinOk.first 1 (aRc (.tmp rfl (.tmp rfl .nil))) rfl ?_))
    rw [Pt.doPage_some hj hg]
    exact ⟨H, _, rfl, rfl, a2, c2, r2, rfl, hro2, fun q hq => by simp [hsub2 q hq]⟩
theorem RDo3_spec (p : Pt) (hi : p.Inv) (v : Value) (D : HL) (hd : DocIn p.fs p.hand v D) (page : Int) (off : Int) (ho : i64s off) (bs : List Int) (ab : Option Addr) (cb : Nat) (hcb : bs.length ≤ 1000000) (rb : HL) (hrb : RoSl 1 (u8s bs) ab bs.length rb) :
    Ctr Try.prog 45 [v, .int .i64 3, .int .i64 page, .int .i64 off, .int .i64 0, .slice ab bs.length cb] [] (D ++ rb) (fun v' L' => ∃ H v1, L' = [H] ∧ v' = .tuple #[v1, .slice none 0 0, .int .i64 (p.doPage page (fun f => f.put off bs)).2] ∧ DocIn (p.doPage page (fun f => f.put off bs)).1.fs p.hand v1 (H ++ D)) := by
  have hF := RFindP_spec p hi p.hand v D hd page
  have hW := fun j hj f => RWith_spec p.fs hi.ok.2.1 hi.ok.2.2 p.hand v D hd j hj f
  have hd' := hd
  obtain ⟨a, cap, ro, rfl, hro, hsub⟩ := hd'
  have hkeep : DocIn p.fs p.hand (.agg #[.slice a p.fs.length cap, .int .i64 p.hand]) ([] ++ D) := hd
  have hsmall := hi.ok.2.2
  cases hg : mget p.tbl page with
  | none =>
    rw [hg] at hF
    refine Ctr.enter (n := 68) [.cell 12 33, .tmp 13, .tmp 14] [(0, _), (1, _), (2, _), (3, _), (4, _), (5, _)] Try.func45 rfl rfl rfl (lb rfl) Try.call45 ⟨rfl, rfl, rfl, rfl, rfl, rfl, trivial⟩ ?_
    intro cx fin fin0
    refine aG ?_
    repeat (first | refine gw ?_ | refine gN fun _ => ?_ | refine gB fun _ => ?_ | fail)
    refine aC (o := hF) (h := ?_) (hro := RoIn.all (fun p hp => by simp [hp]))
    rintro _ _ ⟨rfl, rfl⟩
    refine aG ?_
    repeat (first | refine gx ?_ | refine gN fun _ => ?_ | refine gB fun _ => ?_ | fail)
    refine W.nilChunk ?_
    refine W.ret (fin _ _ (FinOk.first 1 (aRc (.tmp rfl (.tmp rfl .nil))) rfl ?_))
    rw [Pt.doPage_none hg]
    exact ⟨[], _, rfl, rfl, hkeep⟩
  | some i =>
    obtain ⟨j, hj, rfl, hu, hpg⟩ := hi.tbl page i hg
    rw [hg] at hF
    have c1 : ¬ ((j : Int) < 0) := by omega
    have hR := RPut_spec p.fs[j] (hi.good _ (List.getElem_mem hj)) off ho bs ab cb hcb rb hrb
    obtain ⟨bx, ox, lx, ex, frx, rfl, hmem, hseg, hld⟩ := doc_at hro hj
    have hat : ∀ (L : List HL), At (D ++ rb) L bx (.cells lx.toArray ex frx) := fun L => .inr (by first | exact hsub _ hmem | simp [hsub _ hmem])
    refine Ctr.enter (n := 68) [.cell 12 33, .tmp 13, .tmp 14] [(0, _), (1, _), (2, _), (3, _), (4, _), (5, _)] Try.func45 rfl rfl rfl (lb rfl) Try.call45 ⟨rfl, rfl, rfl, rfl, rfl, rfl, trivial⟩ ?_
    intro cx fin fin0
    refine aG ?_
    repeat (first | refine gw ?_ | refine gN fun _ => ?_ | refine gB fun _ => ?_ | fail)
    refine aC (o := hF) (h := ?_) (hro := RoIn.all (fun p hp => by simp [hp]))
    rintro _ _ ⟨rfl, rfl⟩
    refine aG ?_
    repeat (first | refine gh c1 ?_ | refine gN fun _ => ?_ | refine gB fun _ => ?_ | fail)
    refine aV (OpVal.ixSl tab_ok rfl rfl rfl rfl rfl hj) ?_
    refine aV (OpVal.loadN ty_43.1 ty_43.2 rfl (hat _) hseg) ?_
    repeat (first | refine gx ?_ | refine gN fun _ => ?_ | refine gB fun _ => ?_ | fail)
    refine aC (o := hR) (h := ?_) (hro := by first | exact RoIn.nil | exact RoIn.all (fun p hp => by simp [hp]))
    rintro _ _ ⟨rfl, rfl⟩
    refine aG ?_
    repeat (first | refine gx ?_ | refine gN fun _ => ?_ | refine gB fun _ => ?_ | fail)
    refine aC (o := hW j hj (p.fs[j].put off bs).1) (h := ?_) (hro := RoIn.all (fun p hp => by simp [hp]))
    rintro _ _ ⟨H, rfl, a2, c2, r2, rfl, hro2, hsub2⟩
    refine aG ?_
    repeat (first | refine gx ?_ | refine gN fun _ => ?_ | refine gB fun _ => ?_ | fail)
    refine W.ret (fin _ _ (FinOk.first 1 (aRc (.tmp rfl (.tmp rfl .nil))) rfl ?_))
    rw [Pt.doPage_some hj hg]
    exact ⟨H, _, rfl, rfl, a2, c2, r2, rfl, hro2, fun q hq => by simp [hsub2 q hq]⟩
theorem RDo2_spec (p : Pt) (hi : p.Inv) (v : Value) (D : HL) (hd : DocIn p.fs p.hand v D) (page off n : Int) (ho : i64s off) (hn : i64s n) :
    Ctr Try.prog 45 [v, .int .i64 2, .int .i64 page, .int .i64 off, .int .i64 n, .slice none 0 0] [] D (fun v' L' => ∃ H v1 a len cap, L' = [H] ∧ v' = .tuple #[v1, .slice a len cap, .int .i64 (p.get page off n).2.2] ∧ DocIn (p.get page off n).1.fs p.hand v1 (H ++ D) ∧
      ∃ ro, (∀ q ∈ ro, q ∈ H) ∧ RoSl 1 (u8s (p.get page off n).2.1) a len ro ∧ (p.get page off n).2.1.length = len) := by
  have hF := RFindP_spec p hi p.hand v D hd page
  have hW := fun j hj f => RWith_spec p.fs hi.ok.2.1 hi.ok.2.2 p.hand v D hd j hj f
  have hd' := hd
  obtain ⟨a, cap, ro, rfl, hro, hsub⟩ := hd'
  have hkeep : DocIn p.fs p.hand (.agg #[.slice a p.fs.length cap, .int .i64 p.hand]) ([] ++ D) := hd
  have hsmall := hi.ok.2.2
  cases hg : mget p.tbl page with
  | none =>
    rw [hg] at hF
    refine Ctr.enter (n := 68) [.cell 12 33, .tmp 13, .tmp 14] [(0, _), (1, _), (2, _), (3, _), (4, _), (5, _)] Try.func45 rfl rfl rfl (lb rfl) Try.call45 ⟨rfl, rfl, rfl, rfl, rfl, rfl, trivial⟩ ?_
    intro cx fin fin0
    refine aG ?_
    repeat (first | refine gw ?_ | refine gN fun _ => ?_ | refine gB fun _ => ?_ | fail)
    refine aC (o := hF) (h := ?_) (hro := RoIn.all (fun p hp => by simp [hp]))
    rintro _ _ ⟨rfl, rfl⟩
    refine aG ?_
    repeat (first | refine gx ?_ | refine gN fun _ => ?_ | refine gB fun _ => ?_ | fail)
    refine W.nilChunk ?_
    refine W.ret (fin _ _ (FinOk.first 1 (aRc (.tmp rfl (.tmp rfl .nil))) rfl ?_))
    rw [Pt.get_none hg]
    exact ⟨[], _, none, 0, 0, rfl, rfl, hkeep, [], (fun _ h => by cases h), ⟨rfl, .inl ⟨rfl, rfl⟩⟩, rfl⟩
  | some i =>
    obtain ⟨j, hj, rfl, hu, hpg⟩ := hi.tbl page i hg
    rw [hg] at hF
    have c1 : ¬ ((j : Int) < 0) := by omega
    have hR := RGet_spec p.fs[j] (hi.good _ (List.getElem_mem hj)) off n ho hn
    obtain ⟨bx, ox, lx, ex, frx, rfl, hmem, hseg, hld⟩ := doc_at hro hj
    have hat : ∀ (L : List HL), At D L bx (.cells lx.toArray ex frx) := fun L => .inr (hsub _ hmem)
    refine Ctr.enter (n := 68) [.cell 12 33, .tmp 13, .tmp 14] [(0, _), (1, _), (2, _), (3, _), (4, _), (5, _)] Try.func45 rfl rfl rfl (lb rfl) Try.call45 ⟨rfl, rfl, rfl, rfl, rfl, rfl, trivial⟩ ?_
    intro cx fin fin0
    refine aG ?_
    repeat (first | refine gw ?_ | refine gN fun _ => ?_ | refine gB fun _ => ?_ | fail)
    refine aC (o := hF) (h := ?_) (hro := RoIn.all (fun p hp => by simp [hp]))
    rintro _ _ ⟨rfl, rfl⟩
    refine aG ?_
    repeat (first | refine gh c1 ?_ | refine gN fun _ => ?_ | refine gB fun _ => ?_ | fail)
    refine aV (OpVal.ixSl tab_ok rfl rfl rfl rfl rfl hj) ?_
    refine aV (OpVal.loadN ty_43.1 ty_43.2 rfl (hat _) hseg) ?_
    repeat (first | refine gx ?_ | refine gN fun _ => ?_ | refine gB fun _ => ?_ | fail)
    refine aC (o := hR) (h := ?_) (hro := by exact RoIn.nil)
    rintro _ _ ⟨ag, lg, cg, Hg, rfl, rfl, hrg, hlg⟩
    refine aG ?_
    repeat (first | refine gx ?_ | refine gN fun _ => ?_ | refine gB fun _ => ?_ | fail)
    refine aC (o := hW j hj (p.fs[j].get off n).1) (h := ?_) (hro := RoIn.all (fun p hp => by simp [hp]))
    rintro _ _ ⟨H, rfl, a2, c2, r2, rfl, hro2, hsub2⟩
    refine aG ?_
    repeat (first | refine gx ?_ | refine gN fun _ => ?_ | refine gB fun _ => ?_ | fail)
    refine W.groupV [0, 0] rfl ?_
    refine W.ret (fin _ _ (FinOk.first 1 (aRc (.tmp rfl (.tmp rfl .nil))) rfl ?_))
    rw [Pt.get_some hj hg]
    exact ⟨_, _, ag, lg, cg, rfl, rfl, ⟨a2, c2, r2, rfl, hro2, fun q hq => by simp [hsub2 q hq]⟩, Hg, fun q hq => by simp [hq], hrg, hlg⟩
end Go.Proofs.Ytgipjpiiomgjjaa
