/-
  The walks of this claim and the rules that they use, part four: each theorem is a contract of one function, or what such a proof asks.
-/
import Derived.Test.YtfajcpnbhnddbaaGreatZ3
namespace Go.Proofs.YtfajcpnbhnddbaaGreat
open Go Go.Sl Go.IntWalk
set_option maxHeartbeats 4000000
set_option maxRecDepth 20000
theorem RDo0_spec (p : Pt) (hi : p.Inv) (v : Value) (D : HL) (hd : DocIn p.fs p.hand v D) (page : Int) :
    Ctr Tryz.prog 95 [v, .int .i64 0, .int .i64 page, .int .i64 0, .int .i64 0, .slice none 0 0] [] D (fun v' L' => ∃ H v1, L' = [H] ∧ v' = .tuple #[v1, .slice none 0 0, .int .i64 (p.doPage page Fr.pin).2] ∧ DocIn (p.doPage page Fr.pin).1.fs p.hand v1 (H ++ D)) := by
  have hF := RFindP_spec p hi p.hand v D hd page
  have hW := fun j hj f => RWith_spec p.fs hi.ok.2.1 hi.ok.2.2 p.hand v D hd j hj f
  have hd' := hd
  obtain ⟨a, cap, ro, rfl, hro, hsub⟩ := hd'
  have hkeep : DocIn p.fs p.hand (.agg #[.slice a p.fs.length cap, .int .i64 p.hand]) ([] ++ D) := hd
  have hsmall := hi.ok.2.2
  cases hg : mget p.tbl page with
  | none =>
    rw [hg] at hF
    refine Ctr.enter (n := 68) [.cell 12 32, .tmp 13, .tmp 14] [(0, _), (1, _), (2, _), (3, _), (4, _), (5, _)] Tryz.func95 rfl rfl rfl (lb rfl) Tryz.call95 ⟨rfl, rfl, rfl, rfl, rfl, rfl, trivial⟩ ?_
    intro cx fin fin0
    refine aG ?_
    repeat (first | refine gw ?_ | refine gN fun _ => ?_ | refine gB fun _ => ?_ | fail)
    refine aC (o := hF) (h := ?_) (hro := RoIn.all (fun p hp => by simp [hp]))
    rintro _ _ ⟨rfl, rfl⟩
    refine aG ?_
    repeat (first | refine gx ?_ | refine gN fun _ => ?_ | refine gB fun _ => ?_ | fail)
    refine W.nilChunk ?_
    refine W.ret (fin _ _ (FinOk.first 1 (aRc (.tmp rfl (.tmp rfl .nil))) rfl ?_))
    rw [Pt.doPage_none hg]
    exact ⟨[], _, rfl, rfl, hkeep⟩
  | some i =>
    obtain ⟨j, hj, rfl, hu, hpg⟩ := hi.tbl page i hg
    rw [hg] at hF
    have c1 : ¬ ((j : Int) < 0) := by omega
    have hR := RPin_spec p.fs[j] (hi.good _ (List.getElem_mem hj))
    obtain ⟨bx, ox, lx, ex, frx, rfl, hmem, hseg, hld⟩ := doc_at hro hj
    have hat : ∀ (L : List HL), At D L bx (.cells lx.toArray ex frx) := fun L => .inr (by first | exact hsub _ hmem | simp [hsub _ hmem])
    refine Ctr.enter (n := 68) [.cell 12 32, .tmp 13, .tmp 14] [(0, _), (1, _), (2, _), (3, _), (4, _), (5, _)] Tryz.func95 rfl rfl rfl (lb rfl) Tryz.call95 ⟨rfl, rfl, rfl, rfl, rfl, rfl, trivial⟩ ?_
    intro cx fin fin0
    refine aG ?_
    repeat (first | refine gw ?_ | refine gN fun _ => ?_ | refine gB fun _ => ?_ | fail)
    refine aC (o := hF) (h := ?_) (hro := RoIn.all (fun p hp => by simp [hp]))
    rintro _ _ ⟨rfl, rfl⟩
    refine aG ?_
    repeat (first | refine gh c1 ?_ | refine gN fun _ => ?_ | refine gB fun _ => ?_ | fail)
    refine aV (OpVal.ixSl tab_ok rfl rfl rfl rfl rfl hj) ?_
    refine aV (OpVal.loadN ty_141.1 ty_141.2 rfl (hat _) hseg) ?_
    repeat (first | refine gx ?_ | refine gN fun _ => ?_ | refine gB fun _ => ?_ | fail)
    refine aC (o := hR) (h := ?_) (hro := by first | exact RoIn.nil | exact RoIn.all (fun p hp => by simp [hp]))
    rintro _ _ ⟨rfl, rfl⟩
    refine aG ?_
    repeat (first | refine gx ?_ | refine gN fun _ => ?_ | refine gB fun _ => ?_ | fail)
    refine aC (o := hW j hj (p.fs[j].pin).1) (h := ?_) (hro := RoIn.all (fun p hp => by simp [hp]))
    rintro _ _ ⟨H, rfl, a2, c2, r2, rfl, hro2, hsub2⟩
    refine aG ?_
    repeat (first | refine gx ?_ | refine gN fun _ => ?_ | refine gB fun _ => ?_ | fail)
    refine W.ret (fin _ _ (FinOk.first 1 (aRc (.tmp rfl (.tmp rfl .nil))) rfl ?_))
    rw [Pt.doPage_some hj hg]
    exact ⟨H, _, rfl, rfl, a2, c2, r2, rfl, hro2, fun q hq => by simp [hsub2 q hq]⟩
theorem RDo1_spec (p : Pt) (hi : p.Inv) (v : Value) (D : HL) (hd : DocIn p.fs p.hand v D) (page : Int) :
    Ctr Tryz.prog 95 [v, .int .i64 1, .int .i64 page, .int .i64 0, .int .i64 0, .slice none 0 0] [] D (fun v' L' => ∃ H v1, L' = [H] ∧ v' = .tuple #[v1, .slice none 0 0, .int .i64 (p.doPage page Fr.unpin).2] ∧ DocIn (p.doPage page Fr.unpin).1.fs p.hand v1 (H ++ D)) := by
  have hF := RFindP_spec p hi p.hand v D hd page
  have hW := fun j hj f => RWith_spec p.fs hi.ok.2.1 hi.ok.2.2 p.hand v D hd j hj f
  have hd' := hd
  obtain ⟨a, cap, ro, rfl, hro, hsub⟩ := hd'
  have hkeep : DocIn p.fs p.hand (.agg #[.slice a p.fs.length cap, .int .i64 p.hand]) ([] ++ D) := hd
  have hsmall := hi.ok.2.2
  cases hg : mget p.tbl page with
  | none =>
    rw [hg] at hF
    refine Ctr.enter (n := 68) [.cell 12 32, .tmp 13, .tmp 14] [(0, _), (1, _), (2, _), (3, _), (4, _), (5, _)] Tryz.func95 rfl rfl rfl (lb rfl) Tryz.call95 ⟨rfl, rfl, rfl, rfl, rfl, rfl, trivial⟩ ?_
    intro cx fin fin0
    refine aG ?_
    repeat (first | refine gw ?_ | refine gN fun _ => ?_ | refine gB fun _ => ?_ | fail)
    refine aC (o := hF) (h := ?_) (hro := RoIn.all (fun p hp => by simp [hp]))
    rintro _ _ ⟨rfl, rfl⟩
    refine aG ?_
    repeat (first | refine gx ?_ | refine gN fun _ => ?_ | refine gB fun _ => ?_ | fail)
    refine W.nilChunk ?_
    refine W.ret (fin _ _ (FinOk.first 1 (aRc (.tmp rfl (.tmp rfl .nil))) rfl ?_))
    rw [Pt.doPage_none hg]
    exact ⟨[], _, rfl, rfl, hkeep⟩
  | some i =>
    obtain ⟨j, hj, rfl, hu, hpg⟩ := hi.tbl page i hg
    rw [hg] at hF
    have c1 : ¬ ((j : Int) < 0) := by omega
    have hR := RUnpin_spec p.fs[j] (hi.good _ (List.getElem_mem hj))
    obtain ⟨bx, ox, lx, ex, frx, rfl, hmem, hseg, hld⟩ := doc_at hro hj
    have hat : ∀ (L : List HL), At D L bx (.cells lx.toArray ex frx) := fun L => .inr (by first | exact hsub _ hmem | simp [hsub _ hmem])
    refine Ctr.enter (n := 68) [.cell 12 32, .tmp 13, .tmp 14] [(0, _), (1, _), (2, _), (3, _), (4, _), (5, _)] Tryz.func95 rfl rfl rfl (lb rfl) Tryz.call95 ⟨rfl, rfl, rfl, rfl, rfl, rfl, trivial⟩ ?_
    intro cx fin fin0
    refine aG ?_
    repeat (first | refine gw ?_ | refine gN fun _ => ?_ | refine gB fun _ => ?_ | fail)
    refine aC (o := hF) (h := ?_) (hro := RoIn.all (fun p hp => by simp [hp]))
    rintro _ _ ⟨rfl, rfl⟩
    refine aG ?_
    repeat (first | refine gh c1 ?_ | refine gN fun _ => ?_ | refine gB fun _ => ?_ | fail)
    refine aV (OpVal.ixSl tab_ok rfl rfl rfl rfl rfl hj) ?_
    refine aV (OpVal.loadN ty_141.1 ty_141.2 rfl (hat _) hseg) ?_
    repeat (first | refine gx ?_ | refine gN fun _ => ?_ | refine gB fun _ => ?_ | fail)
    refine aC (o := hR) (h := ?_) (hro := by first | exact RoIn.nil | exact RoIn.all (fun p hp => by simp [hp]))
    rintro _ _ ⟨rfl, rfl⟩
    refine aG ?_
    repeat (first | refine gx ?_ | refine gN fun _ => ?_ | refine gB fun _ => ?_ | fail)
    refine aC (o := hW j hj (p.fs[j].unpin).1) (h := ?_) (hro := RoIn.all (fun p hp => by simp [hp]))
    rintro _ _ ⟨H, rfl, a2, c2, r2, rfl, hro2, hsub2⟩
    refine aG ?_
    repeat (first | refine gx ?_ | refine gN fun _ => ?_ | refine gB fun _ => ?_ | fail)
    refine W.ret (fin _ _ (FinOk.first 1 (aRc (.tmp rfl (.tmp rfl .nil))) rfl ?_))
    rw [Pt.doPage_some hj hg]
    exact ⟨H, _, rfl, rfl, a2, c2, r2, rfl, hro2, fun q hq => by simp [hsub2 q hq]⟩
theorem RDo3_spec (p : Pt) (hi : p.Inv) (v : Value) (D : HL) (hd : DocIn p.fs p.hand v D) (page : Int) (off : Int) (ho : i64s off) (bs : List Int) (ab : Option Addr) (cb : Nat) (hcb : bs.length ≤ 1000000) (rb : HL) (hrb : RoSl 1 (u8s bs) ab bs.length rb) :
    Ctr Tryz.prog 95 [v, .int .i64 3, .int .i64 page, .int .i64 off, .int .i64 0, .slice ab bs.length cb] [] (D ++ rb) (fun v' L' => ∃ H v1, L' = [H] ∧ v' = .tuple #[v1, .slice none 0 0, .int .i64 (p.doPage page (fun f => f.put off bs)).2] ∧ DocIn (p.doPage page (fun f => f.put off bs)).1.fs p.hand v1 (H ++ D)) := by
  have hF := RFindP_spec p hi p.hand v D hd page
  have hW := fun j hj f => RWith_spec p.fs hi.ok.2.1 hi.ok.2.2 p.hand v D hd j hj f
  have hd' := hd
  obtain ⟨a, cap, ro, rfl, hro, hsub⟩ := hd'
  have hkeep : DocIn p.fs p.hand (.agg #[.slice a p.fs.length cap, .int .i64 p.hand]) ([] ++ D) := hd
  have hsmall := hi.ok.2.2
  cases hg : mget p.tbl page with
  | none =>
    rw [hg] at hF
    refine Ctr.enter (n := 68) [.cell 12 32, .tmp 13, .tmp 14] [(0, _), (1, _), (2, _), (3, _), (4, _), (5, _)] Tryz.func95 rfl rfl rfl (lb rfl) Tryz.call95 ⟨rfl, rfl, rfl, rfl, rfl, rfl, trivial⟩ ?_
    intro cx fin fin0
    refine aG ?_
    repeat (first | refine gw ?_ | refine gN fun _ => ?_ | refine gB fun _ => ?_ | fail)
    refine aC (o := hF) (h := ?_) (hro := RoIn.all (fun p hp => by simp [hp]))
    rintro _ _ ⟨rfl, rfl⟩
    refine aG ?_
    repeat (first | refine gx ?_ | refine gN fun _ => ?_ | refine gB fun _ => ?_ | fail)
    refine W.nilChunk ?_
    refine W.ret (fin _ _ (FinOk.first 1 (aRc (.tmp rfl (.tmp rfl .nil))) rfl ?_))
    rw [Pt.doPage_none hg]
    exact ⟨[], _, rfl, rfl, hkeep⟩
  | some i =>
    obtain ⟨j, hj, rfl, hu, hpg⟩ := hi.tbl page i hg
    rw [hg] at hF
    have c1 : ¬ ((j : Int) < 0) := by omega
    have hR := RPut_spec p.fs[j] (hi.good _ (List.getElem_mem hj)) off ho bs ab cb hcb rb hrb
    obtain ⟨bx, ox, lx, ex, frx, rfl, hmem, hseg, hld⟩ := doc_at hro hj
    have hat : ∀ (L : List HL), At (D ++ rb) L bx (.cells lx.toArray ex frx) := fun L => .inr (by first | exact hsub _ hmem | simp [hsub _ hmem])
    refine Ctr.enter (n := 68) [.cell 12 32, .tmp 13, .tmp 14] [(0, _), (1, _), (2, _), (3, _), (4, _), (5, _)] Tryz.func95 rfl rfl rfl (lb rfl) Tryz.call95 ⟨rfl, rfl, rfl, rfl, rfl, rfl, trivial⟩ ?_
    intro cx fin fin0
    refine aG ?_
    repeat (first | refine gw ?_ | refine gN fun _ => ?_ | refine gB fun _ => ?_ | fail)
    refine aC (o := hF) (h := ?_) (hro := RoIn.all (fun p hp => by simp [hp]))
    rintro _ _ ⟨rfl, rfl⟩
    refine aG ?_
    repeat (first | refine gh c1 ?_ | refine gN fun _ => ?_ | refine gB fun _ => ?_ | fail)
    refine aV (OpVal.ixSl tab_ok rfl rfl rfl rfl rfl hj) ?_
    refine aV (OpVal.loadN ty_141.1 ty_141.2 rfl (hat _) hseg) ?_
    repeat (first | refine gx ?_ | refine gN fun _ => ?_ | refine gB fun _ => ?_ | fail)
    refine aC (o := hR) (h := ?_) (hro := by first | exact RoIn.nil | exact RoIn.all (fun p hp => by simp [hp]))
    rintro _ _ ⟨rfl, rfl⟩
    refine aG ?_
    repeat (first | refine gx ?_ | refine gN fun _ => ?_ | refine gB fun _ => ?_ | fail)
    refine aC (o := hW j hj (p.fs[j].put off bs).1) (h := ?_) (hro := RoIn.all (fun p hp => by simp [hp]))
    rintro _ _ ⟨H, rfl, a2, c2, r2, rfl, hro2, hsub2⟩
    refine aG ?_
    repeat (first | refine gx ?_ | refine gN fun _ => ?_ | refine gB fun _ => ?_ | fail)
    refine W.ret (fin _ _ (FinOk.first 1 (aRc (.tmp rfl (.tmp rfl .nil))) rfl ?_))
    rw [Pt.doPage_some hj hg]
    exact ⟨H, _, rfl, rfl, a2, c2, r2, rfl, hro2, fun q hq => by simp [hsub2 q hq]⟩
theorem RDo2_spec (p : Pt) (hi : p.Inv) (v : Value) (D : HL) (hd : DocIn p.fs p.hand v D) (page off n : Int) (ho : i64s off) (hn : i64s n) :
    Ctr Tryz.prog 95 [v, .int .i64 2, .int .i64 page, .int .i64 off, .int .i64 n, .slice none 0 0] [] D (fun v' L' => ∃ H v1 a len cap, L' = [H] ∧ v' = .tuple #[v1, .slice a len cap, .int .i64 (p.get page off n).2.2] ∧ DocIn (p.get page off n).1.fs p.hand v1 (H ++ D) ∧
      ∃ ro, (∀ q ∈ ro, q ∈ H) ∧ RoSl 1 (u8s (p.get page off n).2.1) a len ro ∧ (p.get page off n).2.1.length = len) := by
  have hF := RFindP_spec p hi p.hand v D hd page
  have hW := fun j hj f => RWith_spec p.fs hi.ok.2.1 hi.ok.2.2 p.hand v D hd j hj f
  have hd' := hd
  obtain ⟨a, cap, ro, rfl, hro, hsub⟩ := hd'
  have hkeep : DocIn p.fs p.hand (.agg #[.slice a p.fs.length cap, .int .i64 p.hand]) ([] ++ D) := hd
  have hsmall := hi.ok.2.2
  cases hg : mget p.tbl page with
  | none =>
    rw [hg] at hF
    refine Ctr.enter (n := 68) [.cell 12 32, .tmp 13, .tmp 14] [(0, _), (1, _), (2, _), (3, _), (4, _), (5, _)] Tryz.func95 rfl rfl rfl (lb rfl) Tryz.call95 ⟨rfl, rfl, rfl, rfl, rfl, rfl, trivial⟩ ?_
    intro cx fin fin0
    refine aG ?_
    repeat (first | refine gw ?_ | refine gN fun _ => ?_ | refine gB fun _ => ?_ | fail)
    refine aC (o := hF) (h := ?_) (hro := RoIn.all (fun p hp => by simp [hp]))
    rintro _ _ ⟨rfl, rfl⟩
    refine aG ?_
    repeat (first | refine gx ?_ | refine gN fun _ => ?_ | refine gB fun _ => ?_ | fail)
    refine W.nilChunk ?_
    refine W.ret (fin _ _ (FinOk.first 1 (aRc (.tmp rfl (.tmp rfl .nil))) rfl ?_))
    rw [Pt.get_none hg]
    exact ⟨[], _, none, 0, 0, rfl, rfl, hkeep, [], (fun _ h => by cases h), ⟨rfl, .inl ⟨rfl, rfl⟩⟩, rfl⟩
  | some i =>
    obtain ⟨j, hj, rfl, hu, hpg⟩ := hi.tbl page i hg
    rw [hg] at hF
    have c1 : ¬ ((j : Int) < 0) := by omega
    have hR := RGet_spec p.fs[j] (hi.good _ (List.getElem_mem hj)) off n ho hn
    obtain ⟨bx, ox, lx, ex, frx, rfl, hmem, hseg, hld⟩ := doc_at hro hj
    have hat : ∀ (L : List HL), At D L bx (.cells lx.toArray ex frx) := fun L => .inr (hsub _ hmem)
    refine Ctr.enter (n := 68) [.cell 12 32, .tmp 13, .tmp 14] [(0, _), (1, _), (2, _), (3, _), (4, _), (5, _)] Tryz.func95 rfl rfl rfl (lb rfl) Tryz.call95 ⟨rfl, rfl, rfl, rfl, rfl, rfl, trivial⟩ ?_
    intro cx fin fin0
    refine aG ?_
    repeat (first | refine gw ?_ | refine gN fun _ => ?_ | refine gB fun _ => ?_ | fail)
    refine aC (o := hF) (h := ?_) (hro := RoIn.all (fun p hp => by simp [hp]))
    rintro _ _ ⟨rfl, rfl⟩
    refine aG ?_
    repeat (first | refine gh c1 ?_ | refine gN fun _ => ?_ | refine gB fun _ => ?_ | fail)
    refine aV (OpVal.ixSl tab_ok rfl rfl rfl rfl rfl hj) ?_
    refine aV (OpVal.loadN ty_141.1 ty_141.2 rfl (hat _) hseg) ?_
    repeat (first | refine gx ?_ | refine gN fun _ => ?_ | refine gB fun _ => ?_ | fail)
    refine aC (o := hR) (h := ?_) (hro := by exact RoIn.nil)
    rintro _ _ ⟨ag, lg, cg, Hg, rfl, rfl, hrg, hlg⟩
    refine aG ?_
    repeat (first | refine gx ?_ | refine gN fun _ => ?_ | refine gB fun _ => ?_ | fail)
    refine aC (o := hW j hj (p.fs[j].get off n).1) (h := ?_) (hro := RoIn.all (fun p hp => by simp [hp]))
    rintro _ _ ⟨H, rfl, a2, c2, r2, rfl, hro2, hsub2⟩
    refine aG ?_
    repeat (first | refine gx ?_ | refine gN fun _ => ?_ | refine gB fun _ => ?_ | fail)
    refine W.groupV [0, 0] rfl ?_
    refine W.ret (fin _ _ (FinOk.first 1 (aRc (.tmp rfl (.tmp rfl .nil))) rfl ?_))
    rw [Pt.get_some hj hg]
    exact ⟨_, _, ag, lg, cg, rfl, rfl, ⟨a2, c2, r2, rfl, hro2, fun q hq => by simp [hsub2 q hq]⟩, Hg, fun q hq => by simp [hq], hrg, hlg⟩
end Go.Proofs.YtfajcpnbhnddbaaGreat
namespace Go.Proofs.YtfajcpnbhnddbaaGreat
open Go Go.Sl Go.IntWalk
set_option maxHeartbeats 4000000
set_option maxRecDepth 20000
theorem RGoes_spec (f : Fl) : Ctr Tryz.prog 151 [f.v] [] [] (fun v L' => v = .bool (!f.used || decide (f.pins = 0)) ∧ L' = []) := by
  refine Ctr.enter (n := 11) [.tmp 2] [(0, _)] Tryz.func151 rfl rfl rfl (lb rfl) Tryz.call151 ⟨rfl, trivial⟩ ?_
  intro cx fin fin0
  refine aG ?_
  repeat (first | refine gw ?_ | refine gN fun _ => ?_ | refine gB fun _ => ?_ | fail)
  by_cases h1 : f.used = true
  · repeat (first | refine gh h1 ?_ | refine gN fun _ => ?_ | refine gB fun _ => ?_ | fail)
    refine W.ret (fin _ _ (FinOk.mk' ([]) (.tmp rfl .nil) (by repeat (first | exact Sel.nil | (apply Sel.cons; (repeat (first | exact Pick.here | apply Pick.there))))) rfl ?_))
    exact ⟨by simp [pack, h1], rfl⟩
  · have h1' : f.used = false := by simpa using h1
    repeat (first | refine gh h1' ?_ | refine gN fun _ => ?_ | refine gB fun _ => ?_ | fail)
    refine W.ret (fin _ _ (FinOk.mk' ([]) (.tmp rfl .nil) (by repeat (first | exact Sel.nil | (apply Sel.cons; (repeat (first | exact Pick.here | apply Pick.there))))) rfl ?_))
    exact ⟨by simp [pack, h1'], rfl⟩
theorem RTurn_spec (fs : List Fl) (h1 : 1 ≤ fs.length) (h2 : fs.length ≤ 64) (hand : Nat) (hh : hand < fs.length) (a : Option Addr) (cap : Nat) (ro : HL) (hro : RoSl 4 (flagsOf fs) a fs.length ro) :
    Ctr Tryz.prog 146 [.slice a fs.length cap, .int .i64 (hand : Int)] [] ro (fun v L' => ∃ a' cap' H, L' = [H] ∧ Own 4 217 (flagsOf (turnFrom hand (2 * fs.length) 0 fs).1) a' fs.length cap' H ∧
      v = (match (turnFrom hand (2 * fs.length) 0 fs).2 with | some (i, k) => .agg #[.int .i64 (i : Int), .int .i64 (((i + 1) % fs.length : Nat) : Int), .slice a' fs.length cap', .int .i64 (k : Int)] | Option.none => .agg #[.int .i64 0, .int .i64 (hand : Int), .slice a' fs.length cap', .int .i64 0])) := by
  obtain ⟨n, hn⟩ : ∃ n, fs.length = n := ⟨_, rfl⟩
  refine Ctr.enter (n := 61) [.cell 4 214] [(0, _), (1, _)] Tryz.func146 rfl rfl rfl (lb rfl) Tryz.call146 ⟨rfl, rfl, trivial⟩ ?_
  intro cx fin fin0
  refine aG ?_
  repeat (first | refine gw ?_ | refine gN fun _ => ?_ | refine gB fun _ => ?_ | fail)
  rename_i b4
  refine W.nilChunk ?_
  refine aPr (appRo tab_ok rfl rfl rfl (Own.nil 4 217) (fun _ h => by cases h) rfl hro (fun p hp => .inr hp) (flags_one fs) (by omega) (by omega)) ?_
  rintro _ _ ⟨ao, co, Ho, rfl, rfl, hown⟩
  refine aG ?_
  rw [List.nil_append, Nat.zero_add] at hown
  rw [Nat.zero_add]
  obtain ⟨bo, lo, rfl, rfl, g1, g2, g3⟩ := hown.some (by omega)
  have hlo : lo = flagsOf fs ++ lo.drop (fs.length * 4) := by rw [← g3, List.take_append_drop]
  have hrl : (lo.drop (fs.length * 4)).length = co * 4 - fs.length * 4 := by rw [List.length_drop, g2]
  generalize lo.drop (fs.length * 4) = rest at hlo hrl
  subst hlo
  rw [hn] at h1 h2 hh g1 hrl ⊢
  refine aG ?_
  refine aBu (ps := [_, _]) ?_
  repeat (first | refine gw ?_ | refine gN fun _ => ?_ | refine gB fun _ => ?_ | fail)
  rename_i b7
  refine aLp (fun q ρ1 L1 => ∃ (k : Nat) (gs : List Fl), k ≤ 2 * n ∧ gs.length = n ∧ turnFrom hand (2 * n - k) k gs = turnFrom hand (2 * n) 0 fs ∧ q = 2 * n - k ∧ ρ1 = [(8, .int .i64 (k : Int)), (5, .int .i64 (n : Int)), (6, .slice (some ⟨bo, 0, none⟩) n co), (1, .int .i64 (hand : Int)), (7, .pointer (some ⟨b7, 0, none⟩)), (4, .pointer (some ⟨b4, 0, none⟩))] ∧ L1 = [[(bo, .cells (flagsOf gs ++ rest).toArray 217 (0, 0))], [(b7, .cells #[.int .i64 0, .int .i64 (hand : Int), .slice (some ⟨bo, 0, none⟩) n co, .int .i64 0] 214 (0, 0))], [(b4, .cells #[.int .i64 0, .int .i64 0, .slice none 0 0, .int .i64 0] 214 (0, 0))]]) (o := ⟨0, fs, Nat.zero_le _, hn, rfl, rfl, rfl, rfl⟩) (h := ?_)
  rintro q ρ1 L1 ⟨k, gs, hk, hgl, hturn, rfl, rfl, rfl⟩
  refine aG ?_
  refine aV (OpVal.mul rfl rfl (i64_in _ (by omega))) ?_
  by_cases hlt : k < 2 * n
  · refine aT ?_ (hb := by simp; omega)
    refine aV (OpVal.add rfl rfl (i64_in _ (by omega))) ?_
    have em : ((hand : Int) + (k : Int)).tmod (n : Int) = (((hand + k) % n : Nat) : Int) := by
      rw [show (hand : Int) + (k : Int) = ((hand + k : Nat) : Int) from by omega]
      rfl
    refine aV (OpVal.rem rfl rfl (by omega) em) ?_
    have hi : (hand + k) % n < gs.length := by rw [hgl]; exact Nat.mod_lt _ (by omega)
    have hsp := flags_split hi
    have hst := flags_set hi gs[(hand + k) % n].goes.1
    have hself : gs.set ((hand + k) % n) gs[(hand + k) % n] = gs := by simp
    have hA : (flagsOf (gs.take ((hand + k) % n))).length = 0 + ((hand + k) % n) * 4 := by rw [flags_take_len (Nat.le_of_lt hi)]; omega
    have hgd : gs.getD ((hand + k) % gs.length) Fl.none = gs[(hand + k) % n] := by
      rw [hgl, List.getD_eq_getElem?_getD, List.getElem?_eq_getElem hi, Option.getD_some]
    have hstep : turnFrom hand (2 * n - k) k gs = if gs[(hand + k) % n].goes.2 = true then (gs.set ((hand + k) % n) gs[(hand + k) % n].goes.1, some ((hand + k) % n, k + 1)) else turnFrom hand (2 * n - (k + 1)) (k + 1) (gs.set ((hand + k) % n) gs[(hand + k) % n].goes.1) := by
      rw [show 2 * n - k = (2 * n - (k + 1)) + 1 from by omega, turnFrom, hgd, hgl]
    generalize gs[(hand + k) % n] = f at hsp hst hself hstep
    rw [hgl] at hi
    generalize hj : (hand + k) % n = j at *
    have hsl : (gs.set j f.goes.1).length = n := by simp [hgl]
    have hseg : seg? (flagsOf gs ++ rest) (0 + j * 4) 4 = some f.l := by
      rw [hsp, List.append_assoc]
      have := seg_mid (A := flagsOf (gs.take j)) (M := f.l) (B := flagsOf (gs.drop (j + 1)) ++ rest) (o := 0) (m := 4) hA rfl
      simpa [Fl.l] using this
    have hu : (flagsOf gs ++ rest)[0 + j * 4 + 0]? = some (.bool f.used) := seg?_get hseg (by decide)
    have hrf : (flagsOf gs ++ rest)[0 + j * 4 + 2]? = some (.bool f.ref) := seg?_get hseg (by decide)
    have hw : splice? (flagsOf gs ++ rest) (0 + j * 4 + 2) [.bool false] = some (flagsOf (gs.set j ⟨f.used, f.dirty, false, f.pins⟩) ++ rest) := by
      have hst2 := flags_set (fs := gs) (i := j) (by omega) ⟨f.used, f.dirty, false, f.pins⟩
      rw [hsp, hst2, List.append_assoc]
      have := splice_mid (A := flagsOf (gs.take j)) (M := f.l) (B := flagsOf (gs.drop (j + 1)) ++ rest) (o := 2) (vs := [.bool false]) (M' := (Fl.mk f.used f.dirty false f.pins).l) hA rfl
      simpa [Fl.l] using this
    have hgo := RGoes_spec f
    refine aV (OpVal.ixSl tab_ok rfl rfl rfl rfl rfl hi) ?_
    refine aV (OpVal.loadN ty_217.1 ty_217.2 rfl (at_own 0 rfl) hseg) ?_
    refine aC (o := hgo) (h := ?_)
    rintro _ _ ⟨rfl, rfl⟩
    refine aG ?_
    by_cases c1 : f.used = false
    · have eg : f.goes = (f, true) := by unfold Fl.goes; rw [if_pos c1]
      rw [eg] at hstep
      rw [if_pos rfl, hself] at hstep
      rw [hstep] at hturn
      rw [c1] at hu ⊢
      repeat (first | refine gx ?_ | refine gN fun _ => ?_ | refine gB fun _ => ?_ | fail)
      refine aV (OpVal.ixSl tab_ok rfl rfl rfl rfl rfl hi) ?_
      refine aV (OpVal.load tab_ok rfl (at_own 0 rfl) hu) ?_
      repeat (first | refine gx ?_ | refine gN fun _ => ?_ | refine gB fun _ => ?_ | fail)
      have em2 : ((j : Int) + 1).tmod (n : Int) = (((j + 1) % n : Nat) : Int) := rfl
      refine aV (OpVal.rem rfl rfl (by omega) em2) ?_
      repeat (first | refine gx ?_ | refine gN fun _ => ?_ | refine gB fun _ => ?_ | fail)
      refine aBu (ps := [_, _, _, _]) ?_
      repeat (first | refine gx ?_ | refine gN fun _ => ?_ | refine gB fun _ => ?_ | fail)
      refine W.ret (fin _ _ (FinOk.first 1 (aRc .nil) rfl ?_))
      rw [hn, ← hturn]
      exact ⟨_, _, _, rfl, ⟨by rw [flagsOf_len, hgl], .inr ⟨bo, flagsOf gs ++ rest, rfl, rfl, g1, by rw [List.length_append, flagsOf_len, hgl, hrl]; omega, by rw [← hgl, ← flagsOf_len]; exact List.take_left⟩⟩, rfl⟩
    · have c1' : f.used = true := by simpa using c1
      rw [c1'] at hu hw ⊢
      by_cases c2 : f.pins = 0
      · by_cases c3 : f.ref = true
        · have eg : f.goes = (⟨f.used, f.dirty, false, f.pins⟩, false) := by unfold Fl.goes; rw [if_neg c1, if_pos c2, c3]; rfl
          rw [eg, if_neg (by simp)] at hstep
          rw [eg] at hsl
          dsimp only at hstep hsl
          rw [hstep] at hturn
          rw [c3] at hrf
          rw [c1'] at hsl hturn
          repeat (first | refine gh c2 ?_ | refine gN fun _ => ?_ | refine gB fun _ => ?_ | fail)
          refine aV (OpVal.ixSl tab_ok rfl rfl rfl rfl rfl hi) ?_
          refine aV (OpVal.load tab_ok rfl (at_own 0 rfl) hu) ?_
          repeat (first | refine gx ?_ | refine gN fun _ => ?_ | refine gB fun _ => ?_ | fail)
          refine aV (OpVal.ixSl tab_ok rfl rfl rfl rfl rfl hi) ?_
          repeat (first | refine gx ?_ | refine gN fun _ => ?_ | refine gB fun _ => ?_ | fail)
          refine aV (OpVal.load tab_ok rfl (at_own 0 rfl) hrf) ?_
          repeat (first | refine gx ?_ | refine gN fun _ => ?_ | refine gB fun _ => ?_ | fail)
          refine aV (OpVal.ixSl tab_ok rfl rfl rfl rfl rfl hi) ?_
          refine W.store tab_ok rfl Upd.here rfl rfl rfl rfl rfl hw (W.step tab_ok rfl rfl ?_)
          repeat (first | refine gx ?_ | refine gN fun _ => ?_ | refine gB fun _ => ?_ | fail)
          refine aR (o := ⟨2 * n - (k + 1), by omega, k + 1, _, by omega, hsl, hturn, rfl, rfl, rfl⟩)
        · have c3' : f.ref = false := by simpa using c3
          have eg : f.goes = (f, true) := by unfold Fl.goes; rw [if_neg c1, if_pos c2, c3']; obtain ⟨a1, a2, a3, a4⟩ := f; simp_all
          rw [eg] at hstep
          rw [if_pos rfl, hself] at hstep
          rw [hstep] at hturn
          rw [c3'] at hrf
          repeat (first | refine gh c2 ?_ | refine gN fun _ => ?_ | refine gB fun _ => ?_ | fail)
          refine aV (OpVal.ixSl tab_ok rfl rfl rfl rfl rfl hi) ?_
          refine aV (OpVal.load tab_ok rfl (at_own 0 rfl) hu) ?_
          repeat (first | refine gx ?_ | refine gN fun _ => ?_ | refine gB fun _ => ?_ | fail)
          refine aV (OpVal.ixSl tab_ok rfl rfl rfl rfl rfl hi) ?_
          repeat (first | refine gx ?_ | refine gN fun _ => ?_ | refine gB fun _ => ?_ | fail)
          refine aV (OpVal.load tab_ok rfl (at_own 0 rfl) hrf) ?_
          repeat (first | refine gx ?_ | refine gN fun _ => ?_ | refine gB fun _ => ?_ | fail)
          have em2 : ((j : Int) + 1).tmod (n : Int) = (((j + 1) % n : Nat) : Int) := rfl
          refine aV (OpVal.rem rfl rfl (by omega) em2) ?_
          repeat (first | refine gx ?_ | refine gN fun _ => ?_ | refine gB fun _ => ?_ | fail)
          refine aBu (ps := [_, _, _, _]) ?_
          repeat (first | refine gx ?_ | refine gN fun _ => ?_ | refine gB fun _ => ?_ | fail)
          refine W.ret (fin _ _ (FinOk.first 1 (aRc .nil) rfl ?_))
          rw [hn, ← hturn]
          exact ⟨_, _, _, rfl, ⟨by rw [flagsOf_len, hgl], .inr ⟨bo, flagsOf gs ++ rest, rfl, rfl, g1, by rw [List.length_append, flagsOf_len, hgl, hrl]; omega, by rw [← hgl, ← flagsOf_len]; exact List.take_left⟩⟩, rfl⟩
      · have eg : f.goes = (f, false) := by unfold Fl.goes; rw [if_neg c1, if_neg c2]
        rw [eg, if_neg (by simp), hself] at hstep
        rw [hstep] at hturn
        repeat (first | refine gh c2 ?_ | refine gN fun _ => ?_ | refine gB fun _ => ?_ | fail)
        refine aR (o := ⟨2 * n - (k + 1), by omega, k + 1, _, by omega, hgl, hturn, rfl, rfl, rfl⟩)
  · refine aF ?_ (hb := by simp; omega)
    have hk2 : k = 2 * n := by omega
    subst hk2
    rw [Nat.sub_self, turnFrom] at hturn
    repeat (first | refine gw ?_ | refine gN fun _ => ?_ | refine gB fun _ => ?_ | fail)
    refine W.ret (fin _ _ (FinOk.first 1 (aRc .nil) rfl ?_))
    rw [hn, ← hturn]
    exact ⟨_, _, _, rfl, ⟨by rw [flagsOf_len, hgl], .inr ⟨bo, flagsOf gs ++ rest, rfl, rfl, g1, by rw [List.length_append, flagsOf_len, hgl, hrl]; omega, by rw [← hgl, ← flagsOf_len]; exact List.take_left⟩⟩, rfl⟩
theorem RFlags_spec (p : Pt) (hi : p.Inv) (v : Value) (D : HL) (hd : DocIn p.fs p.hand v D) : Ctr Tryz.prog 147 [v] [] D (fun v' L' => ∃ a' cap' H, v' = .slice a' p.fs.length cap' ∧ L' = [H] ∧ Own 4 217 (flagsOf (p.fs.map Fr.fl)) a' p.fs.length cap' H) := by
  obtain ⟨a, cap, ro, rfl, hro, hsub⟩ := hd
  have hsmall := hi.ok.2.2
  refine Ctr.enter (n := 41) [.tmp 2] [(0, _)] Tryz.func147 rfl rfl rfl (lb rfl) Tryz.call147 ⟨rfl, trivial⟩ ?_
  intro cx fin fin0
  refine aG ?_
  repeat (first | refine gw ?_ | refine gN fun _ => ?_ | refine gB fun _ => ?_ | fail)
  rename_i b1
  refine W.nilChunk ?_
  refine aLp (fun q ρ1 L1 => ∃ (j : Nat) (aa : Option Addr) (cc : Nat) (H : HL), j ≤ p.fs.length ∧ Own 4 217 (flagsOf ((p.fs.map Fr.fl).take j)) aa j cc H ∧ q = p.fs.length - j ∧ ρ1 = [(4, .int .i64 (j : Int)), (3, .slice aa j cc), (1, .pointer (some ⟨b1, 0, none⟩))] ∧ L1 = [[(b1, .cells #[.slice a p.fs.length cap, .int .i64 p.hand] 32 (0, 0))], H]) (o := ⟨0, none, 0, [], Nat.zero_le _, Own.nil _ _, rfl, rfl, rfl⟩) (h := ?_)
  rintro q ρ1 L1 ⟨j, aa, cc, H, hj, hown, rfl, rfl, rfl⟩
  refine aG ?_
  repeat (first | refine gw ?_ | refine gN fun _ => ?_ | refine gB fun _ => ?_ | fail)
  by_cases hlt : j < p.fs.length
  · refine aT ?_ (hb := by simp; omega)
    obtain ⟨bx, ox, lx, ex, frx, rfl, hmem, hseg, hld⟩ := doc_at hro hlt
    have hat : ∀ (L : List HL), At D L bx (.cells lx.toArray ex frx) := fun L => .inr (hsub _ hmem)
    have hnx : (p.fs.map Fr.fl).take (j + 1) = (p.fs.map Fr.fl).take j ++ [p.fs[j].fl] := by rw [List.take_add_one]; simp [hlt]
    have l0 : lx[ox + j * 6 + 0]? = some (.bool p.fs[j].used) := hld 0 (by decide)
    have l1 : lx[ox + j * 6 + 1]? = some (.bool p.fs[j].dirty) := hld 1 (by decide)
    have l2 : lx[ox + j * 6 + 2]? = some (.bool p.fs[j].ref) := hld 2 (by decide)
    have l3 : lx[ox + j * 6 + 3]? = some (.int .i64 p.fs[j].pins) := hld 3 (by decide)
    generalize p.fs[j] = f at hnx l0 l1 l2 l3
    refine W.drawH tab_ok 27 [.b false, .b false, .b false, .b false, .b false, .b false, .b false, .b false, .b false, .b false, .b false, .b false, .b false, .b false, .b false, .b false, .b false, .b false, .b false, .b false, .b false, .b false, .b false, .b false, .b false, .b false, .b true] [] follows (by decide +kernel) (by decide +kernel) rfl (by decide) rfl ?_
    intro _
    refine dG ?_
    repeat (first | refine dL ?_ | refine dS ?_ | (refine dN ?_; intro _; refine dG ?_) | (refine dB ?_; intro _; refine dG ?_) | fail)
    refine dV (OpVal.ixSl tab_ok rfl rfl rfl rfl rfl hlt) ?_
    refine dV (OpVal.load tab_ok rfl (show At _ _ bx (.cells lx.toArray ex frx) from .inr (by simp [hsub _ hmem])) l0) ?_
    repeat (first | refine dL ?_ | refine dS ?_ | (refine dN ?_; intro _; refine dG ?_) | (refine dB ?_; intro _; refine dG ?_) | fail)
    refine dV (OpVal.ixSl tab_ok rfl rfl rfl rfl rfl hlt) ?_
    refine dV (OpVal.load tab_ok rfl (show At _ _ bx (.cells lx.toArray ex frx) from .inr (by simp [hsub _ hmem])) l1) ?_
    repeat (first | refine dL ?_ | refine dS ?_ | (refine dN ?_; intro _; refine dG ?_) | (refine dB ?_; intro _; refine dG ?_) | fail)
    refine dV (OpVal.ixSl tab_ok rfl rfl rfl rfl rfl hlt) ?_
    refine dV (OpVal.load tab_ok rfl (show At _ _ bx (.cells lx.toArray ex frx) from .inr (by simp [hsub _ hmem])) l2) ?_
    repeat (first | refine dL ?_ | refine dS ?_ | (refine dN ?_; intro _; refine dG ?_) | (refine dB ?_; intro _; refine dG ?_) | fail)
    refine dV (OpVal.ixSl tab_ok rfl rfl rfl rfl rfl hlt) ?_
    refine dV (OpVal.load tab_ok rfl (show At _ _ bx (.cells lx.toArray ex frx) from .inr (by simp [hsub _ hmem])) l3) ?_
    refine dV (OpVal.build (ps := [_, _, _, _]) tab_ok rfl rfl rfl rfl (by repeat (first | exact trivial | refine ⟨⟨_, _, _, rfl, rfl, rfl⟩, ?_⟩)) rfl) ?_
    refine dSl (ps := [_]) ?_
    intro bt
    refine dG ?_
    refine WD.nil (W.dropNil (aG ?_))
    refine aAp (hown) ?_
    rintro _ _ ⟨_, _, _, rfl, rfl, ho⟩
    refine aG ?_
    rw [show flagsOf ((p.fs.map Fr.fl).take j) ++ [.bool f.used, .bool f.dirty, .bool f.ref, .int .i64 f.pins] = flagsOf ((p.fs.map Fr.fl).take (j + 1)) from by rw [hnx]; simp [flagsOf, Fl.l, Fr.fl]] at ho
    refine aV (OpVal.add rfl rfl (i64_in _ (by omega))) ?_
    refine W.order [2, 0] rfl ?_
    refine aR (o := ⟨p.fs.length - (j + 1), by omega, j + 1, _, _, _, by omega, ho, rfl, rfl, rfl⟩)
  · refine aF ?_ (hb := by simp; omega)
    have hjn : j = p.fs.length := by omega
    subst hjn
    rw [List.take_of_length_le (by simp)] at hown
    refine W.order [1] rfl ?_
    refine W.ret (fin _ _ (FinOk.first 1 (.tmp rfl .nil) rfl ?_))
    exact ⟨aa, cc, H, rfl, rfl, hown⟩
end Go.Proofs.YtfajcpnbhnddbaaGreat
namespace Go.Proofs.YtfajcpnbhnddbaaGreat
open Go Go.Sl Go.IntWalk
set_option maxHeartbeats 4000000
set_option maxRecDepth 20000
theorem getD_set_ne {fs : List Fl} {i c : Nat} {g : Fl} (h : i ≠ c) : (fs.set i g).getD c Fl.none = fs.getD c Fl.none := by
  rw [List.getD_eq_getElem?_getD, List.getD_eq_getElem?_getD, List.getElem?_set_ne h]
theorem getD_set_eq {fs : List Fl} {c : Nat} {g : Fl} (h : c < fs.length) : (fs.set c g).getD c Fl.none = g := by
  rw [List.getD_eq_getElem?_getD, List.getElem?_set_self h, Option.getD_some]
theorem turn_hit {hand : Nat} : ∀ {m k : Nat} {fs : List Fl} {c : Nat}, (turnFrom hand m k fs).2 = none → c < fs.length → (fs.getD c Fl.none).goes.2 = true → ∀ k', k ≤ k' → k' < k + m → (hand + k') % fs.length ≠ c
  | 0, k, fs, c, _, _, _, k', h1, h2 => by omega
  | m + 1, k, fs, c, h, hc, hg, k', h1, h2 => by
    unfold turnFrom at h
    split at h
    · cases h
    · rename_i hne
      have hic : (hand + k) % fs.length ≠ c := by rintro rfl; exact hne hg
      by_cases hk : k' = k
      · subst hk; exact hic
      · have := turn_hit (c := c) h (by simpa using hc) (by rw [getD_set_ne hic]; exact hg) k' (by omega) (by omega)
        simpa using this
theorem turn_two {hand : Nat} : ∀ {m k : Nat} {fs : List Fl} {c : Nat}, (turnFrom hand m k fs).2 = none → c < fs.length → ((fs.getD c Fl.none).used = false ∨ (fs.getD c Fl.none).pins = 0) →
    ∀ k' k'', k ≤ k' → k' < k'' → k'' < k + m → (hand + k') % fs.length = c → (hand + k'') % fs.length = c → False
  | 0, k, fs, c, _, _, _, k', k'', h1, h2, h3, _, _ => by omega
  | m + 1, k, fs, c, h, hc, hg, k', k'', h1, h2, h3, e1, e2 => by
    unfold turnFrom at h
    split at h
    · cases h
    · rename_i hne
      by_cases hic : (hand + k) % fs.length = c
      · rw [hic] at h hne
        have hu : (fs.getD c Fl.none).used = true := by
          cases hx : (fs.getD c Fl.none).used with
          | true => rfl
          | false => exact absurd (by unfold Fl.goes; rw [if_pos hx]) hne
        have hp : (fs.getD c Fl.none).pins = 0 := hg.resolve_left (by rw [hu]; decide)
        have hgo : (fs.getD c Fl.none).goes.1.goes.2 = true := by
          have e : (fs.getD c Fl.none).goes.1 = ⟨(fs.getD c Fl.none).used, (fs.getD c Fl.none).dirty, false, (fs.getD c Fl.none).pins⟩ := by
            unfold Fl.goes; rw [if_neg (by rw [hu]; decide), if_pos hp]
          rw [e]
          unfold Fl.goes
          rw [if_neg (by rw [hu]; decide), if_pos hp]
          rfl
        have := turn_hit (c := c) h (by simpa using hc) (by rw [getD_set_eq hc]; exact hgo) k'' (by omega) (by omega)
        exact this (by simpa using e2)
      · have hk : k' ≠ k := by rintro rfl; exact hic e1
        exact turn_two (c := c) h (by simpa using hc) (by rw [getD_set_ne hic]; exact hg) k' k'' (by omega) h2 (by omega) (by simpa using e1) (by simpa using e2)
theorem turn_stays {hand : Nat} : ∀ {m k : Nat} {fs : List Fl}, 0 < fs.length → (∀ c, c < fs.length → (fs.getD c Fl.none).goes = (fs.getD c Fl.none, false)) → (turnFrom hand m k fs).1 = fs
  | 0, _, _, _, _ => rfl
  | m + 1, k, fs, h0, h => by
    have hi := Nat.mod_lt (hand + k) h0
    unfold turnFrom
    rw [h _ hi, if_neg (by simp)]
    have e : fs.set ((hand + k) % fs.length) (fs.getD ((hand + k) % fs.length) Fl.none) = fs := by
      rw [getD_eq hi]; simp
    dsimp only
    rw [e]
    exact turn_stays h0 h
theorem turn_none {hand : Nat} {fs : List Fl} (hh : hand < fs.length) (h : (turnFrom hand (2 * fs.length) 0 fs).2 = none) : (turnFrom hand (2 * fs.length) 0 fs).1 = fs := by
  refine turn_stays (by omega) fun c hc => ?_
  by_cases hg : (fs.getD c Fl.none).used = false ∨ (fs.getD c Fl.none).pins = 0
  · exfalso
    by_cases hch : hand ≤ c
    · refine turn_two (c := c) h hc hg (c - hand) (c - hand + fs.length) (by omega) (by omega) (by omega) ?_ ?_
      · rw [show hand + (c - hand) = c from by omega, Nat.mod_eq_of_lt hc]
      · rw [show hand + (c - hand + fs.length) = c + fs.length from by omega, Nat.add_mod_right, Nat.mod_eq_of_lt hc]
    · refine turn_two (c := c) h hc hg (c + fs.length - hand) (c + fs.length - hand + fs.length) (by omega) (by omega) (by omega) ?_ ?_
      · rw [show hand + (c + fs.length - hand) = c + fs.length from by omega, Nat.add_mod_right, Nat.mod_eq_of_lt hc]
      · rw [show hand + (c + fs.length - hand + fs.length) = c + fs.length + fs.length from by omega, Nat.add_mod_right, Nat.add_mod_right, Nat.mod_eq_of_lt hc]
  · simp only [not_or, Bool.not_eq_false] at hg
    unfold Fl.goes
    rw [if_neg (by rw [hg.1]; decide), if_neg hg.2]
theorem setAll_self : ∀ fs : List Fr, setAll fs (fs.map Fr.fl) = fs
  | [] => rfl
  | f :: fs => by simp only [List.map_cons, setAll, setAll_self fs]; rfl
theorem victim_none {p : Pt} (hi : p.Inv) (h : p.victim.2 = none) : p.victim.1.fs = p.fs ∧ p.victim.1.hand = p.hand := by
  have hl : (p.fs.map Fr.fl).length = p.fs.length := by simp
  have h2 : (turnFrom p.hand.toNat (2 * p.fs.length) 0 (p.fs.map Fr.fl)).2 = none := by
    unfold Pt.victim at h
    simpa using h
  have := turn_none (hand := p.hand.toNat) (fs := p.fs.map Fr.fl) (by rw [hl]; have := hi.hand; omega) (by rw [hl]; exact h2)
  rw [hl] at this
  unfold Pt.victim
  simp only [this, h2, setAll_self, and_self]
theorem Fr.setFl_ref {f : Fr} {g : Fl} (h : Fl.Keeps g f.fl) : f.setFl g = ⟨f.used, f.dirty, g.ref, f.pins, f.page, f.b⟩ := by
  obtain ⟨h1, h2, h3, _⟩ := h
  obtain ⟨g1, g2, g3, g4⟩ := g
  simp only [Fr.fl] at h1 h2 h3
  subst h1 h2 h3
  rfl
theorem setAll_at : ∀ (fs : List Fr) (gs : List Fl) (j : Nat) (h : j < fs.length) (h2 : j < (setAll fs (gs.take j)).length), (setAll fs (gs.take j))[j] = fs[j]
  | f :: fs, [], j, h, h2 => by simp [setAll]
  | f :: fs, g :: gs, 0, h, h2 => by simp [setAll]
  | f :: fs, g :: gs, j + 1, h, h2 => by
    simp only [List.take_succ_cons, setAll, List.getElem_cons_succ]
    exact setAll_at fs gs j (by simpa using h) (by simpa [setAll] using h2)
  | [], _, _, h, _ => by simp at h
theorem RVictim_spec (p : Pt) (hi : p.Inv) (v : Value) (D : HL) (hd : DocIn p.fs p.hand v D) :
    Ctr Tryz.prog 134 [v] [] D (fun v' L' => ∃ H v1, L' = [H] ∧ v' = .tuple #[v1, .int .i64 (match p.victim.2 with | some i => (i : Int) | none => -1)] ∧ DocIn p.victim.1.fs p.victim.1.hand v1 (H ++ D)) := by
  have hFl := RFlags_spec p hi v D hd
  obtain ⟨h, hh⟩ : ∃ h : Nat, p.hand = (h : Int) := ⟨p.hand.toNat, by have := hi.hand; omega⟩
  have hhl : h < p.fs.length := by have := hi.hand; omega
  have hml : (p.fs.map Fr.fl).length = p.fs.length := by simp
  have h1p := hi.ok.2.1
  have hsmall := hi.ok.2.2
  have hT := fun a cap ro hro => RTurn_spec (p.fs.map Fr.fl) (by omega) (by omega) h (by omega) a cap ro hro
  rw [hml] at hT
  have hnone := victim_none hi
  have hk := fun j (hj : j < p.fs.length) (h2 : j < (turnFrom h (2 * p.fs.length) 0 (p.fs.map Fr.fl)).1.length) => turn_keeps h (2 * p.fs.length) 0 (p.fs.map Fr.fl) j (by omega) h2
  have hlen2 : (turnFrom h (2 * p.fs.length) 0 (p.fs.map Fr.fl)).1.length = p.fs.length := by rw [turnFrom_len, hml]
  have hv : p.victim = (⟨setAll p.fs (turnFrom h (2 * p.fs.length) 0 (p.fs.map Fr.fl)).1, p.tbl, match (turnFrom h (2 * p.fs.length) 0 (p.fs.map Fr.fl)).2 with | some (i, _) => (((i + 1) % p.fs.length : Nat) : Int) | Option.none => p.hand⟩, (turnFrom h (2 * p.fs.length) 0 (p.fs.map Fr.fl)).2.map (·.1)) := by
    unfold Pt.victim
    rw [hh, Int.toNat_natCast]
    rfl
  have hpos := @turnFrom_pos h (2 * p.fs.length) 0 (p.fs.map Fr.fl)
  rw [hh] at hd
  generalize turnFrom h (2 * p.fs.length) 0 (p.fs.map Fr.fl) = r at *
  obtain ⟨gs, r2⟩ := r
  have hlen3 : gs.length = p.fs.length := hlen2
  have hd' := hd
  obtain ⟨a, cap, ro, rfl, hro, hsub⟩ := hd'
  have hkeep : DocIn p.fs (h : Int) (.agg #[.slice a p.fs.length cap, .int .i64 (h : Int)]) ([] ++ D) := hd
  cases r2 with
  | none =>
    have hvn : p.victim.2 = none := by rw [hv]; rfl
    have hn := hnone hvn
    rw [hh] at hn
    refine Ctr.enter (n := 45) [.cell 2 32, .tmp 3] [(0, _)] Tryz.func134 rfl rfl rfl (lb rfl) Tryz.call134 ⟨rfl, trivial⟩ ?_
    intro cx fin fin0
    refine aG ?_
    repeat (first | refine gw ?_ | refine gN fun _ => ?_ | refine gB fun _ => ?_ | fail)
    refine W.drawH tab_ok 6 [.b false, .b true, .b false, .b false, .b true, .f] [] follows (by decide +kernel) (by decide +kernel) rfl (by decide) rfl ?_
    intro _
    refine dG ?_
    repeat (first | refine dL ?_ | refine dS ?_ | (refine dN ?_; intro _; refine dG ?_) | (refine dB ?_; intro _; refine dG ?_) | fail)
    refine dC (o := hFl) (h := ?_)
    rintro _ _ ⟨a1, c1, H1, rfl, rfl, ho1⟩
    refine dG ?_
    have hr1 := Own.roSl ho1
    repeat (first | refine dL ?_ | refine dS ?_ | (refine dN ?_; intro _; refine dG ?_) | (refine dB ?_; intro _; refine dG ?_) | fail)
    refine dC (o := hT _ _ _ hr1) (h := ?_)
    rintro _ _ ⟨a2, c2, H2, rfl, ho2, rfl⟩
    refine dG ?_
    refine WD.float tab_ok rfl rfl (lb rfl) (dG ?_)
    refine WD.nil ?_
    intro _ _ _ e; cases e
    refine aG ?_
    repeat (first | refine gx ?_ | refine gN fun _ => ?_ | refine gB fun _ => ?_ | fail)
    refine W.nilChunk ?_
    refine W.ret (fin _ _ (FinOk.first 1 (aRc (.tmp rfl .nil)) rfl ?_))
    rw [hvn, hn.1, hn.2]
    exact ⟨[], _, rfl, rfl, hkeep⟩
  | some iq =>
    obtain ⟨i, q⟩ := iq
    have hq : 0 < q := hpos rfl
    have hvs : p.victim.2 = some i := by rw [hv]; rfl
    have hvf : p.victim.1.fs = setAll p.fs gs := by rw [hv]
    have hvh : p.victim.1.hand = (((i + 1) % p.fs.length : Nat) : Int) := by rw [hv]
    refine Ctr.enter (n := 45) [.cell 2 32, .tmp 3] [(0, _)] Tryz.func134 rfl rfl rfl (lb rfl) Tryz.call134 ⟨rfl, trivial⟩ ?_
    intro cx fin fin0
    refine aG ?_
    repeat (first | refine gw ?_ | refine gN fun _ => ?_ | refine gB fun _ => ?_ | fail)
    rename_i b1 b2
    refine W.drawH tab_ok 6 [.b false, .b true, .b false, .b false, .b true, .f] [] follows (by decide +kernel) (by decide +kernel) rfl (by decide) rfl ?_
    intro _
    refine dG ?_
    repeat (first | refine dL ?_ | refine dS ?_ | (refine dN ?_; intro _; refine dG ?_) | (refine dB ?_; intro _; refine dG ?_) | fail)
    refine dC (o := hFl) (h := ?_)
    rintro _ _ ⟨a1, c1, H1, rfl, rfl, ho1⟩
    refine dG ?_
    have hr1 := Own.roSl ho1
    repeat (first | refine dL ?_ | refine dS ?_ | (refine dN ?_; intro _; refine dG ?_) | (refine dB ?_; intro _; refine dG ?_) | fail)
    refine dC (o := hT _ _ _ hr1) (h := ?_)
    rintro _ _ ⟨a2, c2, H2, rfl, ho2, rfl⟩
    refine dG ?_
    refine WD.float tab_ok rfl rfl (lb rfl) (dG ?_)
    refine WD.nil ?_
    intro _ _ _ e; cases e
    refine aG ?_
    rename_i b4
    obtain ⟨bo, lo, rfl, rfl, g1, g2, g3⟩ := ho2.some (by omega)
    have hq0 : ¬ ((q : Int) = 0) := by omega
    repeat (first | refine gx ?_ | refine gN fun _ => ?_ | refine gB fun _ => ?_ | fail)
    refine W.nilChunk ?_
    have hr0 : RoSl 6 (dflat (setAll p.fs (gs.take 0))) a p.fs.length ro := by rw [List.take_zero, setAll0]; exact hro
    refine aLp (fun q' ρ1 L1 => ∃ (j : Nat) (aj : Option Addr) (cj : Nat) (rj Hj : HL), j ≤ p.fs.length ∧ RoSl 6 (dflat (setAll p.fs (gs.take j))) aj p.fs.length rj ∧ (∀ x ∈ rj, x ∈ Hj ++ D) ∧ q' = p.fs.length - j ∧ ρ1 = [(5, .int .i64 (j : Int)), (1, .pointer (some ⟨b1, 0, none⟩)), (2, .pointer (some ⟨b2, 0, none⟩)), (4, .pointer (some ⟨b4, 0, none⟩)), (3, .int .i64 0)] ∧ L1 = [Hj, [(b1, .cells #[.slice aj p.fs.length cj, .int .i64 (h : Int)] 32 (0, 0))], [(b4, .cells #[.int .i64 (i : Int), .int .i64 (((i + 1) % p.fs.length : Nat) : Int), .slice (some ⟨bo, 0, none⟩) p.fs.length c2, .int .i64 (q : Int)] 214 (0, 0))], [(bo, .cells lo.toArray 217 (0, 0))], [(b2, .cells #[.slice none 0 0, .int .i64 0] 32 (0, 0))]]) (o := ⟨0, a, cap, ro, [], Nat.zero_le _, hr0, fun x hx => by simp [hsub x hx], rfl, rfl, rfl⟩) (h := ?_)
    rintro q' ρ1 L1 ⟨j, aj, cj, rj, Hj, hj, hrj, hsj, rfl, rfl, rfl⟩
    refine aG ?_
    repeat (first | refine gw ?_ | refine gN fun _ => ?_ | refine gB fun _ => ?_ | fail)
    by_cases hlt : j < p.fs.length
    · refine aT ?_ (hb := by simp; omega)
      have hsl := setAll_len p.fs (gs.take j)
      have hjs : j < (setAll p.fs (gs.take j)).length := by omega
      have hjg : j < gs.length := by omega
      have hat0 := setAll_at p.fs gs j hlt hjs
      have hnx := setAll_next p.fs gs j hlt hjg
      have hkj := hk j hlt hjg
      have hkj' : Fl.Keeps gs[j] p.fs[j].fl := by simpa using hkj
      have href := Fr.setFl_ref hkj'
      have hdj : DocIn (setAll p.fs (gs.take j)) (h : Int) (.agg #[.slice aj p.fs.length cj, .int .i64 (h : Int)]) (Hj ++ D) := ⟨aj, cj, rj, by rw [hsl], by rw [hsl]; exact hrj, hsj⟩
      have hW := RWith_spec (setAll p.fs (gs.take j)) (by omega) (by omega) h _ _ hdj j hjs (⟨p.fs[j].used, p.fs[j].dirty, gs[j].ref, p.fs[j].pins, p.fs[j].page, p.fs[j].b⟩)
      rw [← hsl] at hrj
      obtain ⟨bx, ox, lx, ex, frx, rfl, hmem, hseg, hld⟩ := doc_at hrj hjs
      rw [hat0] at hseg hnx
      rw [href] at hnx
      have hget : seg? lo (0 + j * 4) 4 = some gs[j].l := own_flag g2 g3 (by omega) hlen3 hjg
      have hgr : lo[0 + j * 4 + 2]? = some (.bool gs[j].ref) := seg?_get hget (by decide)
      have hat : ∀ (L : List HL), (∀ x ∈ Hj, x ∈ L.flatten) → At D L bx (.cells lx.toArray ex frx) := fun L hL => by
        rcases List.mem_append.1 (hsj _ hmem) with hm | hm
        · exact .inl (hL _ hm)
        · exact .inr hm
      rw [hnx] at hW
      generalize gs[j] = g at hgr hW
      generalize p.fs[j] = f at hseg hW
      repeat (first | refine gw ?_ | refine gN fun _ => ?_ | refine gB fun _ => ?_ | fail)
      refine aV (OpVal.ixSl tab_ok rfl rfl rfl rfl rfl hlt) ?_
      refine aV (OpVal.loadN ty_141.1 ty_141.2 rfl (hat _ (fun x hx => by simp [hx])) hseg) ?_
      repeat (first | refine gw ?_ | refine gN fun _ => ?_ | refine gB fun _ => ?_ | fail)
      refine aV (OpVal.ixSl tab_ok rfl rfl rfl rfl rfl hlt) ?_
      refine aV (OpVal.load tab_ok rfl (at_own 4 rfl) hgr) ?_
      repeat (first | refine gw ?_ | refine gN fun _ => ?_ | refine gB fun _ => ?_ | fail)
      refine aC (o := hW) (h := ?_) (hro := by exact RoIn.append (RoIn.own 1 rfl) (RoIn.all fun q hq => hq))
      rintro _ _ ⟨H, rfl, a3, c3, r3, rfl, hro3, hsub3⟩
      refine aG ?_
      repeat (first | refine gx ?_ | refine gN fun _ => ?_ | refine gB fun _ => ?_ | fail)
      refine W.order [0, 2, 2, 2, 2] rfl ?_
      have hsl2 := setAll_len p.fs (gs.take (j + 1))
      rw [hsl2] at hro3 ⊢
      refine aR (o := ⟨p.fs.length - (j + 1), by omega, j + 1, a3, c3, r3, H, by omega, hro3, (fun x hx => by simp [hsub3 x hx]), rfl, rfl, rfl⟩)
    · refine aF ?_ (hb := by simp; omega)
      have hjn : j = p.fs.length := by omega
      subst hjn
      rw [List.take_of_length_le (by rw [hlen3]; exact Nat.le_refl _)] at hrj
      have hsl := setAll_len p.fs gs
      repeat (first | refine gw ?_ | refine gN fun _ => ?_ | refine gB fun _ => ?_ | fail)
      refine W.order [1, 1, 1, 1, 0] rfl ?_
      refine W.drawH tab_ok 4 [.b false, .b false, .b false, .b true] [3] follows (by decide +kernel) (by decide +kernel) rfl (by decide) rfl ?_
      intro _
      refine dG ?_
      repeat (first | refine dL ?_ | refine dS ?_ | (refine dN ?_; intro _; refine dG ?_) | (refine dB ?_; intro _; refine dG ?_) | fail)
      refine WD.nil (W.dropNil (aG ?_))
      refine W.groupV [4] rfl ?_
      refine aG ?_
      refine W.ret (fin _ _ (FinOk.first 1 (aRc (.tmp rfl .nil)) rfl ?_))
      rw [hvs, hvf, hvh]
      exact ⟨Hj, _, rfl, rfl, aj, cj, rj, by rw [hsl], by rw [hsl]; exact hrj, hsj⟩
end Go.Proofs.YtfajcpnbhnddbaaGreat
namespace Go.Proofs.YtfajcpnbhnddbaaGreat
open Go Go.Sl Go.IntWalk
set_option maxHeartbeats 8000000
set_option maxRecDepth 20000
def eqDv (f g : Fr) : Bool := (f.used == g.used) && ((f.dirty == g.dirty) && ((f.ref == g.ref) && ((f.pins == g.pins) && ((f.page == g.page) && (decide (f.b = g.b) && true)))))
theorem eqDv_self (f : Fr) : eqDv f f = true := by simp [eqDv]
theorem eqDv_iff (f g : Fr) : eqDv f g = true ↔ f = g := by
  obtain ⟨a1, a2, a3, a4, a5, a6⟩ := f
  obtain ⟨b1, b2, b3, b4, b5, b6⟩ := g
  simp [eqDv]
theorem dv_eq {f g : Fr} (hf : u8ok f.b) (hg : u8ok g.b) : EqD Tryz.prog 2 141 f.dv g.dv (eqDv f g) :=
  EqD.struct (P := Tryz.prog) (k := 1) (fs := Tryz.prog.fieldsOf 141) (by kernel_rfl) (by kernel_rfl)
    (FEqs.of_sig (sig := [(false, 4, 0), (false, 4, 1), (false, 4, 2), (false, 3, 3), (false, 3, 4), (false, 9, 5)]) (by kernel_rfl)
      ⟨_, _, rfl, rfl, FEqT.one ty_4.1 rfl rfl (EqD.bool Tryz.underlying4), _, _, rfl, rfl, FEqT.one ty_4.1 rfl rfl (EqD.bool Tryz.underlying4), _, _, rfl, rfl, FEqT.one ty_4.1 rfl rfl (EqD.bool Tryz.underlying4),
        _, _, rfl, rfl, FEqT.one ty_3.1 rfl rfl (EqD.int Tryz.underlying3), _, _, rfl, rfl, FEqT.one ty_3.1 rfl rfl (EqD.int Tryz.underlying3),
        _, _, rfl, rfl, FEqT.one ty_9.1 rfl rfl (by rw [← bstr_eq hf hg]; exact EqD.str Tryz.underlying9), rfl⟩)
theorem dv_guard : Tryz.prog.eqGuardType Tryz.prog.depth 141 = false := by kernel_rfl
theorem neDv {n : Nat} {R : HL} {cx : Cx} {ρ : Env} {L : List HL} {ty t' : Nat} {x y : Operand} {f g : Fr} (hf : u8ok f.b) (hg : u8ok g.b) (hx : ev? ρ x = some f.dv) (hy : ev? ρ y = some g.dv) :
    OpVal Tryz.prog n R cx (.binOp .neq 141 x y t') ty ρ L (.bool (!eqDv f g)) := OpVal.neD (k := 2) hx hy (dv_eq hf hg) (by decide) dv_guard
theorem eqDvO {n : Nat} {R : HL} {cx : Cx} {ρ : Env} {L : List HL} {ty t' : Nat} {x y : Operand} {f g : Fr} (hf : u8ok f.b) (hg : u8ok g.b) (hx : ev? ρ x = some f.dv) (hy : ev? ρ y = some g.dv) :
    OpVal Tryz.prog n R cx (.binOp .eql 141 x y t') ty ρ L (.bool (eqDv f g)) := OpVal.eqD (k := 2) hx hy (dv_eq hf hg) (by decide) dv_guard
theorem zero_u8 : u8ok Fr.zero.b := fun x hx => by
  have := List.eq_of_mem_replicate (show x ∈ List.replicate 32 0 from hx)
  omega
theorem OpVal.whole {P : Program} {n : Nat} {R : HL} {cx : Cx} {ρ : Env} {L : List HL} {T : Tab} (hT : TabOk P T) {t e ty : TypeId} {x : Operand} {b off k m : Nat} {ag : Bool} (hx : ev? ρ x = some (.pointer (some ⟨b, off, none⟩))) (ht : look? T.ars t = some (k, e)) (hz : look? T.tys e = some (ag, m)) :
    OpVal P n R cx (.slice t x none none none) ty ρ L (.slice (some ⟨b, off, none⟩) k k) := by
  refine ⟨fun oo a w ho hty hf hs => ?_⟩
  have hu := hT.ars _ (look?_mem ht)
  have hz' := (hT.tys _ (look?_mem hz)).2
  unfold execOp; rw [ho]
  simp [Instr.sliceAt, Instr.sliceBounds, underlying, hu, hf.ev hx, hz' w, Addr.add_none', Instr.sureAddr]
theorem own_roT (b : Nat) (bs : List Int) (e : Nat) : RoSl 1 (u8s bs) (some ⟨b, 0, none⟩) bs.length [(b, .cells (u8s bs).toArray e (0, 0))] :=
  ⟨by rw [u8s_len, Nat.mul_one], .inr ⟨b, 0, _, _, _, rfl, rfl, by rw [u8s_len]; omega, by rw [List.drop_zero]; exact List.take_of_length_le (by rw [u8s_len]; omega)⟩⟩
theorem FBytes_spec (f : Fr) (hf : f.Ok) (b : Nat) : Ctr Tryz.prog 66 [.pointer (some ⟨b, 0, none⟩)] [] [(b, .cells f.l.toArray 110 (0, 0))]
    (fun v L' => ∃ c, v = .slice (some ⟨c, 0, none⟩) 32 32 ∧ L' = [[(c, .cells (u8s f.b).toArray 108 (0, 0))]]) := by
  have h32 : f.b.length = 32 := hf
  have hs : seg? f.l 5 32 = some (u8s f.b) := by rw [u8s_map]; exact seg_bytes hf
  have hl32 : (u8s f.b).length = 32 := by rw [u8s_len, h32]
  refine Ctr.enter (n := 9) [.tmp 2] [(0, _)] Tryz.func66 rfl rfl rfl (lb rfl) Tryz.call66 ⟨rfl, trivial⟩ ?_
  intro cx fin fin0
  refine aG ?_
  refine aV (OpVal.loadN ty_108.1 ty_108.2 rfl (at_ro 0 rfl) hs) ?_
  refine W.new tab_ok rfl rfl (by exact lb rfl) ?_
  intro c
  refine aG ?_
  refine W.store tab_ok rfl Upd.here rfl rfl rfl hl32 (u8s_one _) (splice_all (by rw [hl32]; rfl)) (W.step tab_ok rfl rfl ?_)
  refine aV (OpVal.whole tab_ok rfl rfl rfl) ?_
  refine W.ret (fin _ _ (FinOk.first 1 (.tmp rfl .nil) rfl ?_))
  exact ⟨c, rfl, rfl⟩
end Go.Proofs.YtfajcpnbhnddbaaGreat
namespace Go.Proofs.YtfajcpnbhnddbaaGreat
open Go Go.Sl Go.IntWalk
set_option maxHeartbeats 4000000
set_option maxRecDepth 20000
structure Mc where
  op : Int
  page : Int
  to : Int
  todo : List Io
  got : List Int
def Mc.idle : Mc := ⟨0, 0, 0, [], []⟩
def mCells (m : Mc) (bp : Nat) (t g : Value) : List Value := [.pointer (some ⟨bp, 0, none⟩), .int .i64 m.op, .int .i64 m.page, t, .int .i64 m.to, g]
def MAt (m : Mc) (b bp : Nat) (H : HL) : Prop := ∃ a ct ag cg Ht Hg, H = [(b, Obj.cells (List.toArray [.pointer (some ⟨bp, 0, none⟩), .int .i64 m.op, .int .i64 m.page, .slice a m.todo.length ct, .int .i64 m.to, .slice ag m.got.length cg]) 87 (0, 0))] ++ (Ht ++ Hg) ∧
  RoSl 3 (ios m.todo) a m.todo.length Ht ∧ m.todo.length ≤ ct ∧ Own 1 5 (u8s m.got) ag m.got.length cg Hg
structure Re where
  done : Bool
  errno : Int
  hit : Bool
  data : List Int
  add : C6
def C6.none : C6 := ⟨0, 0, 0, 0, 0, 0⟩
def Re.v (r : Re) (a : Option Addr) (n c : Nat) : Value := .agg #[.bool r.done, .int .i64 0, .int .i64 r.errno, .bool r.hit, .int .i64 0, .slice a n c, .int .u64 0, .int .u64 0, .int .u64 0, .int .u64 0, .int .u64 0, .int .u64 0,
  .int .u64 r.add.h, .int .u64 r.add.m, .int .u64 r.add.e, .int .u64 r.add.r, .int .u64 r.add.w, .int .u64 r.add.f]
theorem Busy_spec (m : Mc) (b bp : Nat) (H : HL) (hm : MAt m b bp H) : Ctr Tryz.prog 10 [.pointer (some ⟨b, 0, none⟩)] [] H (fun v L' => v = .bool (decide (0 < (m.todo.length : Int))) ∧ L' = []) := by
  obtain ⟨a, ct, ag, cg, Ht, Hg, rfl, hro, hct, hown⟩ := hm
  refine Ctr.enter (n := 9) [.tmp 2] [(0, _)] Tryz.func10 rfl rfl rfl (lb rfl) Tryz.call10 ⟨rfl, trivial⟩ ?_
  intro cx fin fin0
  refine aG ?_
  repeat (first | refine gw ?_ | refine gN fun _ => ?_ | refine gB fun _ => ?_ | fail)
  refine W.ret (fin _ _ (FinOk.mk' ([]) (.tmp rfl .nil) (by repeat (first | exact Sel.nil | (apply Sel.cons; (repeat (first | exact Pick.here | apply Pick.there))))) rfl ?_))
  exact ⟨rfl, rfl⟩
def Mc.io (m : Mc) : Io := m.todo.headD (0, 0, 0)
theorem Io_spec (m : Mc) (b bp : Nat) (H : HL) (hm : MAt m b bp H) : Ctr Tryz.prog 37 [.pointer (some ⟨b, 0, none⟩)] [] H (fun v L' => v = .tuple #[.agg (io3 m.io).toArray, .bool (decide (0 < (m.todo.length : Int)))] ∧ L' = []) := by
  have hB := Busy_spec m b bp H hm
  obtain ⟨a, ct, ag, cg, Ht, Hg, rfl, hro, hct, hown⟩ := hm
  obtain ⟨op, page, to, todo, got⟩ := m
  simp only at *
  refine Ctr.enter (n := 14) [.cell 2 93, .tmp 3] [(0, _)] Tryz.func37 rfl rfl rfl (lb rfl) Tryz.call37 ⟨rfl, trivial⟩ ?_
  intro cx fin fin0
  refine aG ?_
  repeat (first | refine gw ?_ | refine gN fun _ => ?_ | refine gB fun _ => ?_ | fail)
  refine aC (o := hB) (h := ?_) (hro := RoIn.same)
  rintro _ _ ⟨rfl, rfl⟩
  refine aG ?_
  cases todo with
  | nil =>
    refine aT ?_ (hb := by rfl)
    refine aBu (ps := []) ?_
    repeat (first | refine gw ?_ | refine gN fun _ => ?_ | refine gB fun _ => ?_ | fail)
    refine W.ret (fin _ _ (FinOk.mk' ([]) (aRc (.tmp rfl .nil)) (by repeat (first | exact Sel.nil | (apply Sel.cons; (repeat (first | exact Pick.here | apply Pick.there))))) rfl ?_))
    exact ⟨rfl, rfl⟩
  | cons x rest =>
    have h0 : 0 < (x :: rest).length := by simp
    obtain ⟨bx, ox, lx, ex, frx, rfl, rfl, hs, -⟩ := RoSl.at (f := io3) (m := 3) (fun _ => rfl) hro h0
    refine aF ?_
    repeat (first | refine gw ?_ | refine gN fun _ => ?_ | refine gB fun _ => ?_ | fail)
    refine aV (OpVal.ixSl tab_ok rfl rfl rfl rfl rfl h0) ?_
    refine aV (OpVal.loadN ty_93.1 ty_93.2 rfl (at_ro 1 rfl) hs) ?_
    repeat (first | refine gw ?_ | refine gN fun _ => ?_ | refine gB fun _ => ?_ | fail)
    refine W.ret (fin _ _ (FinOk.mk' ([]) (aRc (.tmp rfl .nil)) (by repeat (first | exact Sel.nil | (apply Sel.cons; (repeat (first | exact Pick.here | apply Pick.there))))) rfl ?_))
    refine ⟨?_, rfl⟩
    simp only [pack, Mc.io, List.headD_cons]
    simp [io3]
theorem Stop_spec (m : Mc) (b bp : Nat) (H : HL) (hm : MAt m b bp H) : Ctr Tryz.prog 43 [.pointer (some ⟨b, 0, none⟩)] [H] [] (fun _ L' => ∃ H', L' = [H'] ∧ MAt Mc.idle b bp H') := by
  obtain ⟨a, ct, ag, cg, Ht, Hg, rfl, hro, hct, hown⟩ := hm
  refine Ctr.enter (n := 9) [] [(0, _)] Tryz.func43 rfl rfl rfl (lb rfl) Tryz.call43 ⟨rfl, trivial⟩ ?_
  intro cx fin fin0
  refine aG ?_
  refine W.split3 rfl ?_
  refine aG ?_
  repeat (first | refine gw ?_ | refine gN fun _ => ?_ | refine gB fun _ => ?_ | fail)
  refine aBu (ps := [_]) ?_
  repeat (first | refine gw ?_ | refine gN fun _ => ?_ | refine gB fun _ => ?_ | fail)
  refine fin0 _ _ (FinOk.first 1 .nil rfl ?_)
  exact ⟨_, rfl, none, 0, none, 0, [], [], rfl, ⟨rfl, .inl ⟨rfl, rfl⟩⟩, Nat.le_refl _, Own.nil 1 _⟩
theorem MNew_spec (bp : Nat) : Ctr Tryz.prog 49 [.pointer (some ⟨bp, 0, none⟩)] [] [] (fun v L' => ∃ b H, v = .pointer (some ⟨b, 0, none⟩) ∧ L' = [H] ∧ MAt Mc.idle b bp H) := by
  refine Ctr.enter (n := 6) [.tmp 2] [(0, _)] Tryz.func49 rfl rfl rfl (lb rfl) Tryz.call49 ⟨rfl, trivial⟩ ?_
  intro cx fin fin0
  refine aG ?_
  refine aBu (ps := [_]) ?_
  repeat (first | refine gw ?_ | refine gN fun _ => ?_ | refine gB fun _ => ?_ | fail)
  refine W.ret (fin _ _ (FinOk.first 1 (.tmp rfl .nil) rfl ?_))
  exact ⟨_, _, rfl, rfl, none, 0, none, 0, [], [], rfl, ⟨rfl, .inl ⟨rfl, rfl⟩⟩, Nat.le_refl _, Own.nil 1 _⟩
def Re.dn (e : Int) : Re := ⟨true, e, false, [], C6.none⟩
theorem done_spec (e : Int) : Ctr Tryz.prog 59 [.int .i64 e] [] [] (fun v L' => v = (Re.dn e).v none 0 0 ∧ L' = []) := by
  refine Ctr.enter (n := 6) [.cell 2 90] [(0, _)] Tryz.func59 rfl rfl rfl (lb rfl) Tryz.call59 ⟨rfl, trivial⟩ ?_
  intro cx fin fin0
  refine aG ?_
  repeat (first | refine gw ?_ | refine gN fun _ => ?_ | refine gB fun _ => ?_ | fail)
  refine aBu (ps := [_]) ?_
  refine aBu (ps := [_, _]) ?_
  repeat (first | refine gw ?_ | refine gN fun _ => ?_ | refine gB fun _ => ?_ | fail)
  refine W.ret (fin _ _ (FinOk.mk' ([]) (aRc .nil) (by repeat (first | exact Sel.nil | (apply Sel.cons; (repeat (first | exact Pick.here | apply Pick.there))))) rfl ?_))
  exact ⟨rfl, rfl⟩
theorem counted_spec (e : Int) (bs : List Int) (a : Option Addr) (n c : Nat) (k : C6) : Ctr Tryz.prog 100 [.int .i64 e, .slice a n c, k.v] [] [] (fun v L' => v = (if e = 0 then (⟨true, 0, false, bs, k⟩ : Re).v a n c else (Re.dn e).v none 0 0) ∧ L' = []) := by
  have hd := done_spec e
  refine Ctr.enter (n := 15) [.cell 6 90] [(0, _), (1, _), (2, _)] Tryz.func100 rfl rfl rfl (lb rfl) Tryz.call100 ⟨rfl, rfl, rfl, trivial⟩ ?_
  intro cx fin fin0
  refine aG ?_
  repeat (first | refine gw ?_ | refine gN fun _ => ?_ | refine gB fun _ => ?_ | fail)
  by_cases h : e = 0
  · refine aF ?_ (hb := by exact gd h)
    refine aBu (ps := [_]) ?_
    repeat (first | refine gw ?_ | refine gN fun _ => ?_ | refine gB fun _ => ?_ | fail)
    refine aBu (ps := [_, _, _]) ?_
    repeat (first | refine gw ?_ | refine gN fun _ => ?_ | refine gB fun _ => ?_ | fail)
    refine W.ret (fin _ _ (FinOk.mk' ([]) (aRc .nil) (by repeat (first | exact Sel.nil | (apply Sel.cons; (repeat (first | exact Pick.here | apply Pick.there))))) rfl ?_))
    rw [if_pos h]
    exact ⟨rfl, rfl⟩
  · refine aT ?_ (hb := by exact gd h)
    refine aC (o := hd) (h := ?_)
    rintro _ _ ⟨rfl, rfl⟩
    refine aG ?_
    repeat (first | refine gw ?_ | refine gN fun _ => ?_ | refine gB fun _ => ?_ | fail)
    refine W.ret (fin _ _ (FinOk.mk' ([]) (aRc .nil) (by repeat (first | exact Sel.nil | (apply Sel.cons; (repeat (first | exact Pick.here | apply Pick.there))))) rfl ?_))
    rw [if_neg h]
    exact ⟨rfl, rfl⟩
theorem Split_spec (pg : List Int) (hl : pg.length = 32) (a : Option Addr) (cap : Nat) (hcap : 32 ≤ cap) (ro : HL) (hro : RoSl 1 (u8s pg) a 32 ro) :
    Ctr Tryz.prog 65 [.slice a 32 cap] [] ro (fun v L' => ∃ bs c b0 b1 l H0 H1, v = .tuple #[.slice (some ⟨bs, 0, none⟩) 2 c, .int .i64 0] ∧ L' = [[(bs, .cells (List.toArray l) 34 (0, 0))], H0, H1] ∧
      l.take 2 = [.slice (some ⟨b0, 0, none⟩) 16 16, .slice (some ⟨b1, 0, none⟩) 16 16] ∧ H0 = [(b0, .cells (u8s (pg.take 16)).toArray 5 (0, 0))] ∧ H1 = [(b1, .cells (u8s (pg.drop 16)).toArray 5 (0, 0))]) := by
  have h1 : (pg.take 16).length = 16 := by rw [List.length_take]; omega
  have h2 : (pg.drop 16).length = 16 := by rw [List.length_drop]; omega
  obtain ⟨bx, ox, lx, ex, frx, rfl, rfl, hlx, hcx⟩ : ∃ b off l e fr, a = some ⟨b, off, none⟩ ∧ ro = [(b, Obj.cells (List.toArray l) e fr)] ∧ off + 32 ≤ l.length ∧ (l.drop off).take 32 = u8s pg := by
    rcases hro.2 with ⟨h0, _⟩ | ⟨b, off, l, e, fr, q1, q2, q3, q4⟩
    · omega
    · exact ⟨b, off, l, e, fr, q1, q2, by omega, by rw [← q4]⟩
  have r1 : RoSl 1 (u8s (pg.take 16)) (some ⟨bx, ox, none⟩) 16 [(bx, .cells lx.toArray ex frx)] := by
    refine ⟨by rw [u8s_len, h1], .inr ⟨bx, ox, lx, ex, frx, rfl, rfl, by omega, ?_⟩⟩
    rw [← u8s_take, ← hcx, List.take_take]; rfl
  have r2 : RoSl 1 (u8s (pg.drop 16)) (some ⟨bx, ox + 16, none⟩) 16 [(bx, .cells lx.toArray ex frx)] := by
    refine ⟨by rw [u8s_len, h2], .inr ⟨bx, ox + 16, lx, ex, frx, rfl, rfl, by omega, ?_⟩⟩
    rw [← u8s_drop, ← hcx, List.drop_take, List.drop_drop]
  have O1 := own_spec (pg.take 16) (by omega) (some ⟨bx, ox, none⟩) cap _ (by rw [h1]; exact r1)
  have O2 := own_spec (pg.drop 16) (by omega) (some ⟨bx, ox + 16, none⟩) (cap - 16) _ (by rw [h2]; exact r2)
  rw [h1] at O1
  rw [h2] at O2
  refine Ctr.enter (n := 25) [.tmp 2, .tmp 3] [(0, _)] Tryz.func65 rfl rfl rfl (lb rfl) Tryz.call65 ⟨rfl, trivial⟩ ?_
  intro cx fin fin0
  refine aG ?_
  refine aF ?_ (hb := by rfl)
  refine W.nilChunk ?_
  refine aLp (fun m ρ1 L1 => ∃ j : Nat, m = 2 - j ∧ ((j = 0 ∧ ρ1 = [(9, .int .i64 0), (4, .slice none 0 0), (0, .slice (some ⟨bx, ox, none⟩) 32 cap)] ∧ L1 = [[]]) ∨ (j = 1 ∧ ∃ sa c Hs b0, ρ1 = [(9, .int .i64 1), (4, .slice sa 1 c), (0, .slice (some ⟨bx, ox, none⟩) 32 cap)] ∧ L1 = [Hs, [(b0, .cells (u8s (pg.take 16)).toArray 5 (0, 0))]] ∧ Own 1 34 [.slice (some ⟨b0, 0, none⟩) 16 16] sa 1 c Hs) ∨ (j = 2 ∧ ∃ sa c Hs b0 b1, ρ1 = [(9, .int .i64 2), (4, .slice sa 2 c), (0, .slice (some ⟨bx, ox, none⟩) 32 cap)] ∧ L1 = [Hs, [(b0, .cells (u8s (pg.take 16)).toArray 5 (0, 0))], [(b1, .cells (u8s (pg.drop 16)).toArray 5 (0, 0))]] ∧ Own 1 34 [.slice (some ⟨b0, 0, none⟩) 16 16, .slice (some ⟨b1, 0, none⟩) 16 16] sa 2 c Hs))) (o := ⟨0, rfl, .inl ⟨rfl, rfl, rfl⟩⟩) (h := ?_)
  rintro m ρ1 L1 ⟨j, rfl, ⟨rfl, rfl, rfl⟩ | ⟨rfl, sa, c, Hs, b0, rfl, rfl, hown⟩ | ⟨rfl, sa, c, Hs, b0, b1, rfl, rfl, hown⟩⟩
  · refine aG ?_
    refine aT ?_ (hb := by rfl)
    refine aV (OpVal.mul rfl rfl (i64_in _ (by omega))) ?_
    refine aV (OpVal.add rfl rfl (i64_in _ (by omega))) ?_
    refine aV (OpVal.mul rfl rfl (i64_in _ (by omega))) ?_
    refine aV (OpVal.pieceG (l := 0) (h := 16) (c := cap) tab_ok rfl rfl rfl ⟨_, rfl⟩ ⟨_, rfl⟩ rfl (by omega) (by omega) (by omega)) ?_
    have e0 : (if cap = 0 then ox else ox + 0 * 1) = ox := by split <;> omega
    rw [e0]
    refine aC (o := O1) (h := ?_)
    rintro _ _ ⟨b0, rfl, rfl⟩
    refine aG ?_
    refine aSl (ps := [_]) ?_
    intro bt
    refine aG ?_
    refine W.nilChunk ?_
    refine aAp (Own.nil 1 34) ?_
    rintro _ _ ⟨_, _, _, rfl, rfl, ho⟩
    refine aG ?_
    refine aV (OpVal.add rfl rfl (i64_in _ (by omega))) ?_
    refine aR (o := ⟨1, by omega, 1, rfl, .inr (.inl ⟨rfl, _, _, _, _, rfl, rfl, ho⟩)⟩)
  · refine aG ?_
    refine aT ?_ (hb := by rfl)
    refine aV (OpVal.mul rfl rfl (i64_in _ (by omega))) ?_
    refine aV (OpVal.add rfl rfl (i64_in _ (by omega))) ?_
    refine aV (OpVal.mul rfl rfl (i64_in _ (by omega))) ?_
    refine aV (OpVal.pieceG (l := 16) (h := 32) (c := cap) tab_ok rfl rfl rfl ⟨_, rfl⟩ ⟨_, rfl⟩ rfl (by omega) (by omega) (by omega)) ?_
    by_cases hc16 : cap = 16
    · omega
    rw [if_neg hc16]
    refine aC (o := O2) (h := ?_)
    rintro _ _ ⟨b1, rfl, rfl⟩
    refine aG ?_
    refine aSl (ps := [_]) ?_
    intro bt
    refine aG ?_
    refine aAp (hown) ?_
    rintro _ _ ⟨_, _, _, rfl, rfl, ho⟩
    refine aG ?_
    refine aV (OpVal.add rfl rfl (i64_in _ (by omega))) ?_
    refine aR (o := ⟨0, by omega, 2, rfl, .inr (.inr ⟨rfl, _, _, _, _, _, rfl, rfl, ho⟩)⟩)
  · refine aG ?_
    refine aF ?_ (hb := by rfl)
    obtain ⟨bs, l, rfl, rfl, q1, q2, q3⟩ := hown.some (by decide)
    refine W.ret (fin _ _ (FinOk.first 3 (.tmp rfl (.tmp rfl .nil)) rfl ?_))
    exact ⟨bs, _, b0, b1, l, _, _, rfl, rfl, q3, rfl, rfl⟩
def sect (bs : List Int) (k : Int) : List Int := if k = 0 then bs.take 16 else bs.drop 16
def Mc.data (m : Mc) (p : Pt) : List Int := if m.todo.length = 0 then [] else if m.io.1 = 2 then (match mget p.tbl m.io.2.1 with | some i => sect (p.at_ i).b m.io.2.2 | none => []) else []
theorem MAt.head {m : Mc} {b bp : Nat} {H : HL} (h : MAt m b bp H) : ∃ t g : Value, (∃ a ct, t = .slice a m.todo.length ct) ∧ (∃ a ct, g = .slice a m.got.length ct) ∧ (b, Obj.cells (List.toArray [.pointer (some ⟨bp, 0, none⟩), .int .i64 m.op, .int .i64 m.page, t, .int .i64 m.to, g]) 87 (0, 0)) ∈ H := by
  obtain ⟨a, ct, ag, cg, Ht, Hg, rfl, -⟩ := h
  exact ⟨.slice a m.todo.length ct, .slice ag m.got.length cg, ⟨_, _, rfl⟩, ⟨_, _, rfl⟩, List.mem_append_left _ (List.mem_singleton.2 rfl)⟩
theorem Data_spec (m : Mc) (b bp : Nat) (H : HL) (hm : MAt m b bp H) (p : Pt) (hi : p.Inv) (Hp : HL) (hp : PtAt p bp Hp) (hk : m.io.1 = 2 → m.io.2.2 = 0 ∨ m.io.2.2 = 1) :
    Ctr Tryz.prog 38 [.pointer (some ⟨b, 0, none⟩)] [] (H ++ Hp) (fun v L' => ∃ a n c H', v = .slice a n c ∧ L' = [H'] ∧ RoSl 1 (u8s (m.data p)) a n H' ∧ (m.data p).length = n) := by
  have hI := Io_spec m b bp H hm
  obtain ⟨t, g, ⟨at_, ct, rfl⟩, ⟨ag, cg, rfl⟩, hb⟩ := hm.head
  have hF := Find_spec p bp Hp hp m.io.2.1
  have hat : ∀ L, At (H ++ Hp) L b _ := fun L => .inr (List.mem_append_left _ hb)
  have hA := fun i => PAt_spec p hi.ok bp Hp hp i
  have rH : ∀ {L}, RoIn (H ++ Hp) L H := RoIn.all fun q hq => List.mem_append_left _ hq
  have rP : ∀ {L}, RoIn (H ++ Hp) L Hp := RoIn.all fun q hq => List.mem_append_right _ hq
  have hdat : m.data p = m.data p := rfl
  conv at hdat => rhs; unfold Mc.data
  generalize m.data p = dat at *
  generalize m.io = x at *
  obtain ⟨xk, xp, xq⟩ := x
  simp only at *
  refine Ctr.enter (n := 52) [.tmp 2] [(0, _)] Tryz.func38 rfl rfl rfl (lb rfl) Tryz.call38 ⟨rfl, trivial⟩ ?_
  intro cx fin fin0
  refine aG ?_
  refine aC (o := hI) (h := ?_) (hro := rH)
  rintro _ _ ⟨rfl, rfl⟩
  refine aG ?_
  repeat (first | refine gw ?_ | refine gN fun _ => ?_ | refine gB fun _ => ?_ | fail)
  rename_i b3
  refine W.draw follows (by decide +kernel) (zG ?_)
  refine zV (OpVal.load tab_ok rfl (hat _) rfl) ?_
  repeat (first | refine zL ?_ | fail)
  refine zC (o := hF) (h := ?_) (hro := rP)
  refine WZ.nil (aG ?_)
  by_cases h1 : 0 < (m.todo.length : Int)
  · rw [if_neg (by omega)] at hdat
    by_cases h3 : xk = 2
    · rw [if_pos h3] at hdat
      cases hg : mget p.tbl xp with
      | none =>
        rw [hg] at hdat
        subst hdat
        repeat (first | refine gh (gc2 h1 h3) ?_ | refine gN fun _ => ?_ | refine gB fun _ => ?_ | fail)
        refine W.nilChunk ?_
        refine W.ret (fin _ _ (FinOk.first 1 (.tmp rfl .nil) rfl ?_))
        exact ⟨none, 0, 0, [], rfl, rfl, ⟨rfl, .inl ⟨rfl, rfl⟩⟩, rfl⟩
      | some i =>
        rw [hg] at hdat
        simp only at hdat
        obtain ⟨j, hj, rfl, hu, hpg⟩ := hi.tbl xp i hg
        have hfo : (p.at_ (j : Int)).Ok := by rw [Pt.at_nat hj]; exact hi.ok.1 _ (List.getElem_mem hj)
        have hAj := hA (j : Int)
        generalize p.at_ (j : Int) = f at *
        have h32 : f.b.length = 32 := hfo
        repeat (first | refine gh (gc2 h1 h3) ?_ | refine gN fun _ => ?_ | refine gB fun _ => ?_ | fail)
        refine aV (OpVal.load tab_ok rfl (hat _) rfl) ?_
        refine aC (o := hAj) (h := ?_) (hro := rP)
        rintro _ _ ⟨rfl, rfl⟩
        refine aG ?_
        refine aN ?_
        intro c1
        refine aG ?_
        refine W.store tab_ok rfl Upd.here rfl rfl rfl (Fr.l_len hfo) f.l_one (splice_all (by rw [Fr.l_len hfo]; rfl)) (aG ?_)
        refine aC (o := FBytes_spec f hfo c1) (h := ?_)
        rintro _ _ ⟨c2, rfl, rfl⟩
        refine aG ?_
        have hr2 : RoSl 1 (u8s f.b) (some ⟨c2, 0, none⟩) 32 [(c2, .cells (u8s f.b).toArray 108 (0, 0))] := by
          have := own_roT c2 f.b 108
          rwa [h32] at this
        refine aC (o := Split_spec f.b h32 (some ⟨c2, 0, none⟩) 32 (Nat.le_refl _) _ hr2) (h := ?_)
        rintro _ _ ⟨bs, c, b0, b1, l, H0, H1, rfl, rfl, q3, rfl, rfl⟩
        have l0 : l[0 + 0 * 1]? = some (.slice (some ⟨b0, 0, none⟩) 16 16) := by
          have := congrArg (·[0]?) q3
          simpa [List.getElem?_take] using this
        have l1 : l[0 + 1 * 1]? = some (.slice (some ⟨b1, 0, none⟩) 16 16) := by
          have := congrArg (·[1]?) q3
          simpa [List.getElem?_take] using this
        have n0 : (f.b.take 16).length = 16 := by rw [List.length_take]; omega
        have n1 : (f.b.drop 16).length = 16 := by rw [List.length_drop]; omega
        have R0 : ∀ (c : Nat) (q : List Int), q.length = 16 → RoSl 1 (u8s q) (some ⟨c, 0, none⟩) 16 [(c, .cells (u8s q).toArray 5 (0, 0))] := fun c q hq => by
          have := own_roT c q 5
          rwa [hq] at this
        refine aG ?_
        repeat (first | refine gw ?_ | refine gN fun _ => ?_ | refine gB fun _ => ?_ | fail)
        rcases hk h3 with rfl | rfl
        · refine aV (OpVal.ixSl tab_ok rfl rfl rfl rfl rfl (by decide)) ?_
          refine aV (OpVal.load tab_ok rfl (at_own 0 rfl) l0) ?_
          refine W.order [1] rfl ?_
          refine W.ret (fin _ _ (FinOk.first 1 (.tmp rfl .nil) rfl ?_))
          exact ⟨_, _, _, _, rfl, rfl, by rw [hdat]; exact R0 b0 _ n0, by rw [hdat]; exact n0⟩
        · refine aV (OpVal.ixSl tab_ok rfl rfl rfl rfl rfl (by decide)) ?_
          refine aV (OpVal.load tab_ok rfl (at_own 0 rfl) l1) ?_
          refine W.order [2] rfl ?_
          refine W.ret (fin _ _ (FinOk.first 1 (.tmp rfl .nil) rfl ?_))
          exact ⟨_, _, _, _, rfl, rfl, by rw [hdat]; exact R0 b1 _ n1, by rw [hdat]; exact n1⟩
    · rw [if_neg h3] at hdat
      subst hdat
      cases hg : mget p.tbl xp with
      | none =>
        repeat (first | refine gh (gc2 h1 h3) ?_ | refine gN fun _ => ?_ | refine gB fun _ => ?_ | fail)
        refine W.nilChunk ?_
        refine W.ret (fin _ _ (FinOk.first 1 (.tmp rfl .nil) rfl ?_))
        exact ⟨none, 0, 0, [], rfl, rfl, ⟨rfl, .inl ⟨rfl, rfl⟩⟩, rfl⟩
      | some i =>
        repeat (first | refine gh (gc2 h1 h3) ?_ | refine gN fun _ => ?_ | refine gB fun _ => ?_ | fail)
        refine W.nilChunk ?_
        refine W.ret (fin _ _ (FinOk.first 1 (.tmp rfl .nil) rfl ?_))
        exact ⟨none, 0, 0, [], rfl, rfl, ⟨rfl, .inl ⟨rfl, rfl⟩⟩, rfl⟩
  · rw [if_pos (by omega)] at hdat
    subst hdat
    repeat (first | refine gh h1 ?_ | refine gN fun _ => ?_ | refine gB fun _ => ?_ | fail)
    refine W.nilChunk ?_
    refine W.ret (fin _ _ (FinOk.first 1 (.tmp rfl .nil) rfl ?_))
    exact ⟨none, 0, 0, [], rfl, rfl, ⟨rfl, .inl ⟨rfl, rfl⟩⟩, rfl⟩
end Go.Proofs.YtfajcpnbhnddbaaGreat
namespace Go.Proofs.YtfajcpnbhnddbaaGreat
open Go Go.Sl Go.IntWalk
set_option maxHeartbeats 8000000
set_option maxRecDepth 20000
structure Rq where
  op : Int
  page : Int
  off : Int
  len : Int
  data : List Int
  deriving DecidableEq
def Rq.v (q : Rq) (a : Option Addr) (c : Nat) : Value := .agg #[.int .i64 q.op, .int .i64 q.page, .int .i64 q.off, .int .i64 q.len, .slice a q.data.length c]
def mMiss (m : Mc) (p : Pt) : Mc × Pt × Re := match p.victim.2 with
  | none => (m, p.victim.1, ⟨true, 7, false, [], ⟨0, 1, 0, 0, 0, 0⟩⟩)
  | some i => (⟨m.op, m.page, (i : Int), planFetch m.page (p.victim.1.at_ i).dirty (p.victim.1.at_ i).page, m.got⟩,
      if (p.victim.1.at_ i).used = true ∧ (p.victim.1.at_ i).dirty = false then (p.victim.1.release i).1 else p.victim.1,
      ⟨false, 0, false, [], ⟨0, 1, if (p.victim.1.at_ i).used = true ∧ (p.victim.1.at_ i).dirty = false then 1 else 0, 0, 0, 0⟩⟩)
def mFetch (m : Mc) (p : Pt) : Mc × Pt × Re :=
  if (mget p.tbl m.page).isSome = true then (m, (p.doPage m.page Fr.pin).1, if (p.doPage m.page Fr.pin).2 = 0 then ⟨true, 0, true, [], ⟨1, 0, 0, 0, 0, 0⟩⟩ else Re.dn (p.doPage m.page Fr.pin).2) else mMiss m p
theorem _root_.Go.Sl.Own.cap_le {m e : Nat} {cs : List Value} {a : Option Addr} {len cap : Nat} {H : HL} (h : Own m e cs a len cap H) : len ≤ cap := by rcases h.2 with ⟨_, h1, h2, _⟩ | ⟨_, _, _, _, h, _⟩ <;> omega
theorem plan_len (page old : Int) (d : Bool) : (planFetch page d old).length ≤ 4 := by cases d <;> exact Nat.le_of_ble_eq_true rfl
theorem at_ok {p : Pt} (hi : p.Inv) (i : Int) : (p.at_ i).Ok := by
  unfold Pt.at_
  split
  · rename_i h
    rw [List.getD_eq_getElem?_getD, List.getElem?_eq_getElem (show i.toNat < p.fs.length by omega), Option.getD_some]
    exact hi.ok.1 _ (List.getElem_mem _)
  · exact Fr.zero_ok
theorem fetch_spec (m : Mc) (b bp : Nat) (H : HL) (hm : MAt m b bp H) (p : Pt) (hi : p.Inv) (Hp : HL) (hp : PtAt p bp Hp) (q : Rq) (hq : q.page = m.page) (aq : Option Addr) (cq : Nat) :
    Ctr Tryz.prog 97 [.pointer (some ⟨b, 0, none⟩), q.v aq cq] [H, Hp] [] (fun v L' => ∃ H' Hp', v = (mFetch m p).2.2.v none 0 0 ∧ L' = [H', Hp'] ∧ MAt (mFetch m p).1 b bp H' ∧ PtAt (mFetch m p).2.1 bp Hp') := by
  have hF := Find_spec p bp Hp hp m.page
  have hP := PPin_spec p hi bp Hp hp m.page
  have hV := Victim_spec p hi.ok hi.hand bp Hp hp
  have hvi := Pt.victim_inv hi
  have hdone := done_spec (p.doPage m.page Fr.pin).2
  obtain ⟨a, ct, ag, cg, Ht, Hg, rfl, hro, hct, hown⟩ := hm
  obtain ⟨qo, qp, qf, ql, qd⟩ := q
  simp only at hq
  subst hq
  have hmf : mFetch m p = mFetch m p := rfl
  conv at hmf => rhs; unfold mFetch
  generalize mFetch m p = out at *
  refine Ctr.enter (n := 92) [.cell 4 90] [(0, _), (1, _)] Tryz.func97 rfl rfl rfl (lb rfl) Tryz.call97 ⟨rfl, rfl, trivial⟩ ?_
  intro cx fin fin0
  refine aG ?_
  refine W.split3 rfl ?_
  refine aG ?_
  repeat (first | refine gw ?_ | refine gN fun _ => ?_ | refine gB fun _ => ?_ | fail)
  rename_i b4
  refine W.draw follows (by decide +kernel) (zG ?_)
  repeat (first | refine zL ?_ | fail)
  refine zC (o := hF) (h := ?_)
  refine WZ.nil (aG ?_)
  cases hg : mget p.tbl m.page with
  | some i =>
    rw [hg, if_pos (show (some i).isSome = true from rfl)] at hmf
    repeat (first | refine gx ?_ | refine gN fun _ => ?_ | refine gB fun _ => ?_ | fail)
    refine W.drawH tab_ok 8 [.b false, .b false, .b false, .b false, .b false, .b false, .b true, .b false] [5] follows (by decide +kernel) (by decide +kernel) rfl (by decide) rfl ?_
    intro _
    refine dG ?_
    repeat (first | refine dL ?_ | refine dS ?_ | (refine dN ?_; intro _; refine dG ?_) | (refine dB ?_; intro _; refine dG ?_) | fail)
    refine dC (o := hP) (h := ?_)
    rintro _ _ ⟨rfl, Hp2, rfl, hp2⟩
    refine dG ?_
    refine WD.nil (W.dropNil (aG ?_))
    by_cases he : (p.doPage m.page Fr.pin).2 = 0
    · rw [if_pos he] at hmf
      subst hmf
      repeat (first | refine gh he ?_ | refine gN fun _ => ?_ | refine gB fun _ => ?_ | fail)
      refine aBu (ps := [_]) ?_
      refine aBu (ps := [_]) ?_
      refine aBu (ps := [_, _, _]) ?_
      repeat (first | refine gw ?_ | refine gN fun _ => ?_ | refine gB fun _ => ?_ | fail)
      refine W.groupV [3, 3, 3] rfl ?_
      refine W.ret (fin _ _ (FinOk.first 2 (aRc .nil) rfl ?_))
      exact ⟨_, _, rfl, rfl, ⟨_, _, _, _, _, _, rfl, hro, hct, hown⟩, hp2⟩
    · rw [if_neg he] at hmf
      subst hmf
      repeat (first | refine gh he ?_ | refine gN fun _ => ?_ | refine gB fun _ => ?_ | fail)
      refine aC (o := hdone) (h := ?_)
      rintro _ _ ⟨rfl, rfl⟩
      refine aG ?_
      repeat (first | refine gw ?_ | refine gN fun _ => ?_ | refine gB fun _ => ?_ | fail)
      refine W.groupV [3, 3, 3] rfl ?_
      refine W.ret (fin _ _ (FinOk.first 2 (aRc .nil) rfl ?_))
      exact ⟨_, _, rfl, rfl, ⟨_, _, _, _, _, _, rfl, hro, hct, hown⟩, hp2⟩
  | none =>
    rw [hg, if_neg (by simp)] at hmf
    unfold mMiss at hmf
    repeat (first | refine gx ?_ | refine gN fun _ => ?_ | refine gB fun _ => ?_ | fail)
    refine aBu (ps := [_]) ?_
    refine aBu (ps := [_]) ?_
    repeat (first | refine gw ?_ | refine gN fun _ => ?_ | refine gB fun _ => ?_ | fail)
    cases hv : p.victim.2 with
    | none =>
      rw [hv] at hmf hV
      simp only at hmf hV
      subst hmf
      refine aC (o := hV) (h := ?_)
      rintro _ _ ⟨rfl, Hp2, rfl, hp2⟩
      refine aG ?_
      repeat (first | refine gx ?_ | refine gN fun _ => ?_ | refine gB fun _ => ?_ | fail)
      refine W.groupV [4, 4, 4] rfl ?_
      refine W.order [0, 0, 1] rfl ?_
      refine W.ret (fin _ _ (FinOk.first 2 (aRc .nil) rfl ?_))
      exact ⟨_, _, rfl, rfl, ⟨_, _, _, _, _, _, rfl, hro, hct, hown⟩, hp2⟩
    | some j =>
      rw [hv] at hmf hV
      simp only at hmf hV
      refine aC (o := hV) (h := ?_)
      rintro _ _ ⟨rfl, Hp2, rfl, hp2⟩
      refine aG ?_
      have hA := PAt_spec p.victim.1 hvi.ok bp Hp2 hp2 (j : Int)
      have hfo := at_ok hvi (j : Int)
      have hR := Release_spec p.victim.1 hvi.ok bp Hp2 hp2 (j : Int)
      have hPl := PFetch_spec m.page (p.victim.1.at_ (j : Int)).page (p.victim.1.at_ (j : Int)).dirty
      have hpl4 := plan_len m.page (p.victim.1.at_ (j : Int)).page (p.victim.1.at_ (j : Int)).dirty
      generalize p.victim.1.at_ (j : Int) = f at *
      repeat (first | refine gx ?_ | refine gN fun _ => ?_ | refine gB fun _ => ?_ | fail)
      refine aC (o := hA) (h := ?_)
      rintro _ _ ⟨rfl, rfl⟩
      refine aG ?_
      refine aN ?_
      intro c1
      refine aG ?_
      refine W.store tab_ok rfl Upd.here rfl rfl rfl (Fr.l_len hfo) f.l_one (splice_all (by rw [Fr.l_len hfo]; rfl)) (aG ?_)
      obtain ⟨fu, fd, fr, fn, fp, fb⟩ := f
      simp only at hmf hPl hpl4
      cases fu
      case' true => cases fd
      case' true.false =>
        repeat (first | refine gx ?_ | refine gN fun _ => ?_ | refine gB fun _ => ?_ | fail)
        refine aC (o := hR) (h := ?_)
        rintro _ _ ⟨rfl, Hp3, rfl, hp3⟩
        refine aG ?_
      all_goals
        subst hmf
        repeat (first | refine gx ?_ | refine gN fun _ => ?_ | refine gB fun _ => ?_ | fail)
        refine aC (o := hPl) (h := ?_)
        rintro _ _ ⟨an, cn, Hn, rfl, rfl, hn⟩
        refine aG ?_
        repeat (first | refine gx ?_ | refine gN fun _ => ?_ | refine gB fun _ => ?_ | fail)
        refine W.groupV [6, 0, 6] rfl ?_
      case' true.false =>
        refine W.order [0, 0, 2] rfl ?_
      case' true.true =>
        refine W.order [0, 1, 2] rfl ?_
      case' some.false =>
        refine W.order [0, 1, 2] rfl ?_
      all_goals
        refine W.ret (fin _ _ (FinOk.first 2 (aRc .nil) rfl ?_))
        refine ⟨_, _, rfl, rfl, ⟨_, _, _, _, _, _, rfl, Own.roSl hn, hn.cap_le, hown⟩, ?_⟩
        assumption
def selD (p : Pt) (page : Int) (ds : List Int) : List Int := (ds.filter fun i => decide (page < 0) || decide ((p.at_ i).page = page)).map fun i => (p.at_ i).page
theorem selD_next (p : Pt) (page : Int) (ds : List Int) (j : Nat) (hj : j < ds.length) : selD p page (ds.take (j + 1)) = selD p page (ds.take j) ++ (if (decide (page < 0) || decide ((p.at_ ds[j]).page = page)) = true then [(p.at_ ds[j]).page] else []) := by
  rw [List.take_add_one, List.getElem?_eq_getElem hj]
  simp only [selD, Option.toList_some, List.filter_append, List.map_append, List.filter_cons, List.filter_nil]
  split <;> rfl
theorem selD_len (p : Pt) (page : Int) (ds : List Int) : (selD p page ds).length ≤ ds.length := by
  simp only [selD, List.length_map]
  exact List.length_filter_le _ _
theorem dirty_len (p : Pt) : p.dirty.length ≤ p.fs.length := dirtyFrom_len p.fs 0
theorem MDirty_spec (m : Mc) (b bp : Nat) (H : HL) (hm : MAt m b bp H) (p : Pt) (hi : p.Inv) (Hp : HL) (hp : PtAt p bp Hp) (page : Int) :
    Ctr Tryz.prog 132 [.pointer (some ⟨b, 0, none⟩), .int .i64 page] [] (H ++ Hp) (fun v L' => ∃ a c Hl, v = .slice a (selD p page p.dirty).length c ∧ L' = [Hl] ∧ Own 1 3 (ints (selD p page p.dirty)) a (selD p page p.dirty).length c Hl) := by
  obtain ⟨t, g, ⟨at_, ct, rfl⟩, ⟨ag, cg, rfl⟩, hb⟩ := hm.head
  have hat : ∀ L, At (H ++ Hp) L b _ := fun L => .inr (List.mem_append_left _ hb)
  have hA := fun i => PAt_spec p hi.ok bp Hp hp i
  have hD := PDirty_spec p hi.ok bp Hp hp
  have rP : ∀ {L}, RoIn (H ++ Hp) L Hp := RoIn.all fun q hq => List.mem_append_right _ hq
  have h64 := hi.ok.2.2
  have hdl := dirty_len p
  refine Ctr.enter (n := 40) [.tmp 4] [(0, _), (1, _)] Tryz.func132 rfl rfl rfl (lb rfl) Tryz.call132 ⟨rfl, rfl, trivial⟩ ?_
  intro cx fin fin0
  refine aG ?_
  refine aV (OpVal.load tab_ok rfl (hat _) rfl) ?_
  refine aC (o := hD) (h := ?_) (hro := rP)
  rintro _ _ ⟨ad, cd, Hs, rfl, rfl, hds⟩
  refine aG ?_
  generalize p.dirty = ds at *
  refine W.nilChunk ?_
  refine aLp (fun k ρ1 L1 => ∃ (j n : Nat) (a : Option Addr) (c : Nat) (Hl : HL), j ≤ ds.length ∧ n = (selD p page (ds.take j)).length ∧ Own 1 3 (ints (selD p page (ds.take j))) a n c Hl ∧ k = ds.length - j ∧ ρ1 = [(15, .int .i64 (j : Int)), (14, .int .i64 (ds.length : Int)), (13, .slice ad ds.length cd), (5, .slice a n c), (1, .int .i64 page), (0, .pointer (some ⟨b, 0, none⟩))] ∧ L1 = [Hl, Hs]) (o := ⟨0, 0, none, 0, [], by omega, rfl, Own.nil 1 _, rfl, rfl, rfl⟩) (h := ?_)
  rintro k ρ1 L1 ⟨j, n, a, c, Hl, hj, hn, hown, rfl, rfl, rfl⟩
  refine aG ?_
  by_cases hlt : j < ds.length
  · refine aT ?_
    have hnx := selD_next p page ds j hlt
    have hsl := selD_len p page (ds.take j)
    rw [← hn, List.length_take] at hsl
    obtain ⟨bx, ox, lx, ex, frx, rfl, rfl, -, hld⟩ := RoSl.at (f := fun x => [.int .i64 x]) (fun _ => rfl) (Own.roSl hds) hlt
    have l0 : lx[ox + j * 1]? = some (.int .i64 ds[j]) := hld 0 (by decide)
    have hAj := hA ds[j]
    have hfo := at_ok hi ds[j]
    generalize p.at_ ds[j] = f at *
    generalize ds[j] = d at *
    refine aV (OpVal.ixSl tab_ok rfl rfl rfl rfl rfl hlt) ?_
    refine aV (OpVal.load tab_ok rfl (at_own 1 rfl) l0) ?_
    refine aV (OpVal.load tab_ok rfl (hat _) rfl) ?_
    refine aC (o := hAj) (h := ?_) (hro := rP)
    rintro _ _ ⟨rfl, rfl⟩
    refine aG ?_
    refine aN ?_
    intro c1
    refine aG ?_
    refine W.store tab_ok rfl Upd.here rfl rfl rfl (Fr.l_len hfo) f.l_one (splice_all (by rw [Fr.l_len hfo]; rfl)) (aG ?_)
    obtain ⟨fu, fd, fr, fn, fp, fb⟩ := f
    simp only at hnx
    have hsel : ((decide (page < 0) || decide (fp = page)) = true ∧ selD p page (ds.take (j + 1)) = selD p page (ds.take j) ++ [fp]) ∨ ((decide (page < 0) || decide (fp = page)) = false ∧ selD p page (ds.take (j + 1)) = selD p page (ds.take j)) := by
      cases hq : (decide (page < 0) || decide (fp = page)) with
      | true => rw [hq] at hnx; exact .inl ⟨rfl, hnx⟩
      | false => rw [hq] at hnx; exact .inr ⟨rfl, by simpa using hnx⟩
    rcases hsel with ⟨hq, hnx⟩ | ⟨hq, hnx⟩
    · by_cases h0 : page < 0
      case' pos =>
        repeat (first | refine gh h0 ?_ | refine gN fun _ => ?_ | refine gB fun _ => ?_ | fail)
      case' neg =>
        have h1 : fp = page := by simpa [h0] using hq
        repeat (first | refine gh (gc2 h0 h1) ?_ | refine gN fun _ => ?_ | refine gB fun _ => ?_ | fail)
      all_goals
        refine aSl (ps := [_]) ?_
        intro bt
        refine aG ?_
        refine aAp (hown) ?_
        rintro _ _ ⟨_, _, _, rfl, rfl, ho⟩
        refine aG ?_
        refine aV (OpVal.add rfl rfl (i64_in _ (by omega))) ?_
        have ho' : Own 1 3 (ints (selD p page (ds.take j)) ++ ints [fp]) _ _ _ _ := ho
        have e : ints (selD p page (ds.take j)) ++ ints [fp] = ints (selD p page (ds.take (j + 1))) := by rw [hnx]; simp [ints]
        rw [e] at ho'
        refine aR (o := ⟨ds.length - (j + 1), by omega, j + 1, n + 1, _, _, _, by omega, by rw [hnx, List.length_append, ← hn]; rfl, ho', rfl, rfl, rfl⟩)
    · have h0 : ¬ page < 0 := by simp at hq; omega
      have h1 : ¬ fp = page := by simp at hq; exact hq.2
      repeat (first | refine gh (gc2 h0 h1) ?_ | refine gN fun _ => ?_ | refine gB fun _ => ?_ | fail)
      rw [← hnx] at hn hown
      refine aR (o := ⟨ds.length - (j + 1), by omega, j + 1, n, _, _, _, by omega, hn, hown, rfl, rfl, rfl⟩)
  · obtain rfl : j = ds.length := by omega
    refine aF ?_
    rw [List.take_length] at hn hown
    subst hn
    refine W.ret (fin _ _ (FinOk.first 1 (.tmp rfl .nil) rfl ?_))
    exact ⟨_, _, _, rfl, rfl, hown⟩
theorem MFlush_spec (m : Mc) (b bp : Nat) (H : HL) (hm : MAt m b bp H) (p : Pt) (hi : p.Inv) (Hp : HL) (hp : PtAt p bp Hp) (page : Int) :
    Ctr Tryz.prog 106 [.pointer (some ⟨b, 0, none⟩), .int .i64 page] [H] Hp (fun v L' => ∃ H', v = (⟨false, 0, false, [], C6.none⟩ : Re).v none 0 0 ∧ L' = [H'] ∧ MAt { m with todo := planFlush (selD p page p.dirty) } b bp H') := by
  have hD := MDirty_spec m b bp H hm p hi Hp hp page
  have hl := selD_len p page p.dirty
  have hdl := dirty_len p
  have h64 := hi.ok.2.2
  generalize selD p page p.dirty = ds at *
  obtain ⟨a, ct, ag, cg, Ht, Hg, hH, hro, hct, hown⟩ := hm
  refine Ctr.enter (n := 13) [.cell 4 90] [(0, _), (1, _)] Tryz.func106 rfl rfl rfl (lb rfl) Tryz.call106 ⟨rfl, rfl, trivial⟩ ?_
  intro cx fin fin0
  refine aG ?_
  repeat (first | refine gw ?_ | refine gN fun _ => ?_ | refine gB fun _ => ?_ | fail)
  refine aC (o := hD) (h := ?_) (hro := RoIn.append (RoIn.own 1 rfl) RoIn.same)
  rintro _ _ ⟨ad, cd, Hd, rfl, rfl, hd⟩
  refine aG ?_
  have hPF := PFlush_spec ds (by omega) ad cd Hd (Own.roSl hd)
  refine aC (o := hPF) (h := ?_)
  rintro _ _ ⟨an, cn, Hn, rfl, rfl, hn⟩
  refine aG ?_
  subst hH
  refine W.order [3, 0, 1] rfl ?_
  refine aG ?_
  refine W.split3 rfl ?_
  refine aG ?_
  repeat (first | refine gx ?_ | refine gN fun _ => ?_ | refine gB fun _ => ?_ | fail)
  refine aBu (ps := []) ?_
  repeat (first | refine gw ?_ | refine gN fun _ => ?_ | refine gB fun _ => ?_ | fail)
  refine W.groupV [0, 2, 1] rfl ?_
  refine W.ret (fin _ _ (FinOk.first 1 (aRc .nil) rfl ?_))
  exact ⟨_, rfl, rfl, ⟨_, _, _, _, _, _, rfl, Own.roSl hn, hn.cap_le, hown⟩⟩
def mDiscard (p : Pt) (page : Int) : Pt × Int := match mget p.tbl page with | none => (p, 0) | some i => p.release i
theorem Discard_spec (m : Mc) (b bp : Nat) (H : HL) (hm : MAt m b bp H) (p : Pt) (hi : p.Inv) (Hp : HL) (hp : PtAt p bp Hp) (q : Rq) (aq : Option Addr) (cq : Nat) :
    Ctr Tryz.prog 108 [.pointer (some ⟨b, 0, none⟩), q.v aq cq] [Hp] H (fun v L' => ∃ Hp', v = (Re.dn (mDiscard p q.page).2).v none 0 0 ∧ L' = [Hp'] ∧ PtAt (mDiscard p q.page).1 bp Hp') := by
  obtain ⟨t, g, ⟨at_, ct, rfl⟩, ⟨ag, cg, rfl⟩, hb⟩ := hm.head
  have hat : ∀ L, At H L b _ := fun L => .inr hb
  have hF := Find_spec p bp Hp hp q.page
  have hdone := fun e => done_spec e
  obtain ⟨qo, qp, qf, ql, qd⟩ := q
  simp only at *
  refine Ctr.enter (n := 27) [.cell 4 90] [(0, _), (1, _)] Tryz.func108 rfl rfl rfl (lb rfl) Tryz.call108 ⟨rfl, rfl, trivial⟩ ?_
  intro cx fin fin0
  refine aG ?_
  repeat (first | refine gw ?_ | refine gN fun _ => ?_ | refine gB fun _ => ?_ | fail)
  refine W.draw follows (by decide +kernel) (zG ?_)
  refine zV (OpVal.load tab_ok rfl (hat _) rfl) ?_
  repeat (first | refine zL ?_ | fail)
  refine zC (o := hF) (h := ?_)
  refine WZ.nil (aG ?_)
  cases hg : mget p.tbl qp with
  | none =>
    have hmd : mDiscard p qp = (p, 0) := by unfold mDiscard; rw [hg]
    repeat (first | refine gx ?_ | refine gN fun _ => ?_ | refine gB fun _ => ?_ | fail)
    refine aC (o := hdone 0) (h := ?_)
    rintro _ _ ⟨rfl, rfl⟩
    refine aG ?_
    repeat (first | refine gw ?_ | refine gN fun _ => ?_ | refine gB fun _ => ?_ | fail)
    refine W.order [2, 0] rfl ?_
    refine W.ret (fin _ _ (FinOk.first 1 (aRc .nil) rfl ?_))
    rw [hmd]
    exact ⟨_, rfl, rfl, hp⟩
  | some i =>
    have hR := Release_spec p hi.ok bp Hp hp i
    have hmd : mDiscard p qp = p.release i := by unfold mDiscard; rw [hg]
    repeat (first | refine gx ?_ | refine gN fun _ => ?_ | refine gB fun _ => ?_ | fail)
    refine aV (OpVal.load tab_ok rfl (hat _) rfl) ?_
    refine aC (o := hR) (h := ?_)
    rintro _ _ ⟨rfl, Hp2, rfl, hp2⟩
    refine aG ?_
    refine aC (o := hdone _) (h := ?_)
    rintro _ _ ⟨rfl, rfl⟩
    refine aG ?_
    repeat (first | refine gw ?_ | refine gN fun _ => ?_ | refine gB fun _ => ?_ | fail)
    refine W.order [0, 0] rfl ?_
    refine W.ret (fin _ _ (FinOk.first 1 (aRc .nil) rfl ?_))
    rw [hmd]
    exact ⟨_, rfl, rfl, hp2⟩
def mStored (m : Mc) (p : Pt) (page : Int) : Pt × C6 :=
  if m.op = 1 then (((p.clean ((mget p.tbl page).getD 0)).1.release ((mget p.tbl page).getD 0)).1, ⟨0, 0, 1, 0, 0, 0⟩) else ((p.clean ((mget p.tbl page).getD 0)).1, C6.none)
theorem Stored_spec (m : Mc) (b bp : Nat) (H : HL) (hm : MAt m b bp H) (p : Pt) (hi : p.Inv) (Hp : HL) (hp : PtAt p bp Hp) (page : Int) :
    Ctr Tryz.prog 60 [.pointer (some ⟨b, 0, none⟩), .int .i64 page] [Hp] H (fun v L' => ∃ Hp', v = (mStored m p page).2.v ∧ L' = [Hp'] ∧ PtAt (mStored m p page).1 bp Hp') := by
  obtain ⟨t, g, ⟨at_, ct, rfl⟩, ⟨ag, cg, rfl⟩, hb⟩ := hm.head
  have hat : ∀ L, At H L b _ := fun L => .inr hb
  have hF := Find_spec p bp Hp hp page
  have hC := Clean_spec p hi.ok bp Hp hp ((mget p.tbl page).getD 0)
  have hci := Pt.clean_inv hi ((mget p.tbl page).getD 0)
  have hms : mStored m p page = mStored m p page := rfl
  conv at hms => rhs; unfold mStored
  generalize mStored m p page = out at *
  refine Ctr.enter (n := 35) [.cell 4 40] [(0, _), (1, _)] Tryz.func60 rfl rfl rfl (lb rfl) Tryz.call60 ⟨rfl, rfl, trivial⟩ ?_
  intro cx fin fin0
  refine aG ?_
  repeat (first | refine gw ?_ | refine gN fun _ => ?_ | refine gB fun _ => ?_ | fail)
  refine aV (OpVal.load tab_ok rfl (hat _) rfl) ?_
  refine aC (o := hF) (h := ?_)
  rintro _ _ ⟨rfl, rfl⟩
  refine aG ?_
  refine aV (OpVal.load tab_ok rfl (hat _) rfl) ?_
  refine aC (o := hC) (h := ?_)
  rintro _ _ ⟨rfl, Hp2, rfl, hp2⟩
  refine aG ?_
  refine aV (OpVal.load tab_ok rfl (hat _) rfl) ?_
  by_cases h1 : m.op = 1
  · rw [if_pos h1] at hms
    subst hms
    have hR := Release_spec _ hci.ok bp Hp2 hp2 ((mget p.tbl page).getD 0)
    repeat (first | refine gh h1 ?_ | refine gN fun _ => ?_ | refine gB fun _ => ?_ | fail)
    refine aV (OpVal.load tab_ok rfl (hat _) rfl) ?_
    refine aC (o := hR) (h := ?_)
    rintro _ _ ⟨rfl, Hp3, rfl, hp3⟩
    refine aG ?_
    refine aBu (ps := [_]) ?_
    repeat (first | refine gw ?_ | refine gN fun _ => ?_ | refine gB fun _ => ?_ | fail)
    refine W.order [0, 0] rfl ?_
    refine W.ret (fin _ _ (FinOk.first 1 (aRc .nil) rfl ?_))
    exact ⟨_, rfl, rfl, hp3⟩
  · rw [if_neg h1] at hms
    subst hms
    repeat (first | refine gh h1 ?_ | refine gN fun _ => ?_ | refine gB fun _ => ?_ | fail)
    refine aBu (ps := []) ?_
    repeat (first | refine gw ?_ | refine gN fun _ => ?_ | refine gB fun _ => ?_ | fail)
    refine W.order [0, 0] rfl ?_
    refine W.ret (fin _ _ (FinOk.first 1 (aRc .nil) rfl ?_))
    exact ⟨_, rfl, rfl, hp2⟩
end Go.Proofs.YtfajcpnbhnddbaaGreat
namespace Go.Proofs.YtfajcpnbhnddbaaGreat
open Go Go.Sl Go.IntWalk
set_option maxHeartbeats 8000000
set_option maxRecDepth 20000
def mRead (p : Pt) (q : Rq) : Pt × Re := ((p.get q.page q.off q.len).1, if (p.get q.page q.off q.len).2.2 = 0 then ⟨true, 0, false, (p.get q.page q.off q.len).2.1, ⟨0, 0, 0, 1, 0, 0⟩⟩ else Re.dn (p.get q.page q.off q.len).2.2)
def mWrite (p : Pt) (q : Rq) : Pt × Re := ((p.doPage q.page fun f => f.put q.off q.data).1, if (p.doPage q.page fun f => f.put q.off q.data).2 = 0 then ⟨true, 0, false, [], ⟨0, 0, 0, 0, 1, 0⟩⟩ else Re.dn (p.doPage q.page fun f => f.put q.off q.data).2)
theorem get_err {p : Pt} {page off n : Int} (h : (p.get page off n).2.2 ≠ 0) : (p.get page off n).2.1 = [] := by
  unfold Pt.get at *
  cases hg : mget p.tbl page with
  | none => rfl
  | some i =>
    rw [hg] at h
    simp only at h ⊢
    unfold Fr.get at *
    split
    · rfl
    · rename_i h1
      rw [if_neg h1] at h
      split
      · rfl
      · rename_i h2
        rw [if_neg h2] at h
        exact absurd rfl h
theorem Read_spec (m : Mc) (b bp : Nat) (H : HL) (hm : MAt m b bp H) (p : Pt) (hi : p.Inv) (Hp : HL) (hp : PtAt p bp Hp) (q : Rq) (ho : i64s q.off) (aq : Option Addr) (cq : Nat) (b1 : Nat) :
    Ctr Tryz.prog 98 [q.v aq cq, .pointer (some ⟨b1, 0, none⟩)] [Hp] ((b1, .cells #[.pointer (some ⟨b, 0, none⟩)] 51 (0, 0)) :: H) (fun v L' => ∃ a n c Hp' Hd, v = (mRead p q).2.v a n c ∧ L' = [Hp', Hd] ∧ PtAt (mRead p q).1 bp Hp' ∧ RoSl 1 (u8s (mRead p q).2.data) a n Hd ∧ (mRead p q).2.data.length = n) := by
  obtain ⟨t, g, ⟨at_, ct, rfl⟩, ⟨ag, cg, rfl⟩, hb⟩ := hm.head
  have hat : ∀ (y : Nat × Obj) L, At (y :: H) L b _ := fun y L => .inr (List.mem_cons_of_mem _ hb)
  have hG := PGet_spec p hi bp Hp hp q.page q.off q.len ho
  have hC := fun bs a n c => counted_spec (p.get q.page q.off q.len).2.2 bs a n c ⟨0, 0, 0, 1, 0, 0⟩
  have hge := fun h => get_err (p := p) (page := q.page) (off := q.off) (n := q.len) h
  have hmr : mRead p q = mRead p q := rfl
  conv at hmr => rhs; unfold mRead
  generalize mRead p q = out at *
  obtain ⟨qo, qp, qf, ql, qd⟩ := q
  simp only at *
  refine Ctr.enter (n := 24) [.cell 3 90] [(0, _), (1, _)] Tryz.func98 rfl rfl rfl (lb rfl) Tryz.call98 ⟨rfl, rfl, trivial⟩ ?_
  intro cx fin fin0
  refine aG ?_
  repeat (first | refine gw ?_ | refine gN fun _ => ?_ | refine gB fun _ => ?_ | fail)
  refine W.drawH tab_ok 16 [.b false, .b false, .b false, .b false, .b false, .b false, .b false, .b false, .b false, .b false, .b true, .b false, .b false, .b false, .b false, .b false] [2] follows (by decide +kernel) (by decide +kernel) rfl (by decide) rfl ?_
  intro _
  refine dG ?_
  repeat (first | refine dL ?_ | refine dS ?_ | (refine dN ?_; intro _; refine dG ?_) | (refine dB ?_; intro _; refine dG ?_) | fail)
  refine dV (OpVal.load tab_ok rfl (.inr (List.mem_append_right _ (List.mem_cons_of_mem _ hb))) rfl) ?_
  repeat (first | refine dL ?_ | refine dS ?_ | (refine dN ?_; intro _; refine dG ?_) | (refine dB ?_; intro _; refine dG ?_) | fail)
  refine dC (o := hG) (h := ?_)
  rintro _ _ ⟨a, n, c, Hp2, Hs, rfl, rfl, hp2, hrs, hrn⟩
  refine dG ?_
  refine WD.nil (W.dropNil (aG ?_))
  refine aBu (ps := [_]) ?_
  by_cases he : (p.get qp qf ql).2.2 = 0
  · rw [if_pos he] at hmr
    subst hmr
    have hC1 := hC (p.get qp qf ql).2.1 a n c
    rw [if_pos he] at hC1
    refine aC (o := hC1) (h := ?_)
    rintro _ _ ⟨rfl, rfl⟩
    refine aG ?_
    repeat (first | refine gw ?_ | refine gN fun _ => ?_ | refine gB fun _ => ?_ | fail)
    refine W.ret (fin _ _ (FinOk.first 2 (aRc .nil) rfl ?_))
    exact ⟨_, _, _, _, _, rfl, rfl, hp2, hrs, hrn⟩
  · rw [if_neg he] at hmr
    subst hmr
    have hC1 := hC (p.get qp qf ql).2.1 a n c
    rw [if_neg he] at hC1
    refine aC (o := hC1) (h := ?_)
    rintro _ _ ⟨rfl, rfl⟩
    refine aG ?_
    repeat (first | refine gw ?_ | refine gN fun _ => ?_ | refine gB fun _ => ?_ | fail)
    rw [hge he] at hrs hrn
    refine W.order [0, 1] rfl ?_
    refine W.nilChunk ?_
    refine W.order [1, 0, 0] rfl ?_
    refine W.ret (fin _ _ (FinOk.first 2 (aRc .nil) rfl ?_))
    exact ⟨_, _, _, _, _, rfl, rfl, hp2, ⟨rfl, .inl ⟨rfl, rfl⟩⟩, rfl⟩
theorem Write_spec (m : Mc) (b bp : Nat) (H : HL) (hm : MAt m b bp H) (p : Pt) (hi : p.Inv) (Hp : HL) (hp : PtAt p bp Hp) (q : Rq) (ho : i64s q.off) (aq : Option Addr) (cq : Nat) (rq : HL) (hrq : RoSl 1 (u8s q.data) aq q.data.length rq) (b1 : Nat) :
    Ctr Tryz.prog 101 [q.v aq cq, .pointer (some ⟨b1, 0, none⟩)] [Hp] ((b1, .cells #[.pointer (some ⟨b, 0, none⟩)] 51 (0, 0)) :: (H ++ rq)) (fun v L' => ∃ Hp', v = (mWrite p q).2.v none 0 0 ∧ L' = [Hp'] ∧ PtAt (mWrite p q).1 bp Hp') := by
  obtain ⟨t, g, ⟨at_, ct, rfl⟩, ⟨ag, cg, rfl⟩, hb⟩ := hm.head
  have hG := PPut_spec p hi bp Hp hp q.page q.off ho q.data aq cq rq hrq
  have hC := counted_spec (p.doPage q.page fun f => f.put q.off q.data).2 [] none 0 0 ⟨0, 0, 0, 0, 1, 0⟩
  have hmr : mWrite p q = mWrite p q := rfl
  conv at hmr => rhs; unfold mWrite
  generalize mWrite p q = out at *
  obtain ⟨qo, qp, qf, ql, qd⟩ := q
  simp only at *
  by_cases he : (p.doPage qp fun f => f.put qf qd).2 = 0
  case' pos => rw [if_pos he] at hmr hC
  case' neg => rw [if_neg he] at hmr hC
  all_goals
    subst hmr
    refine Ctr.enter (n := 17) [.cell 3 90] [(0, _), (1, _)] Tryz.func101 rfl rfl rfl (lb rfl) Tryz.call101 ⟨rfl, rfl, trivial⟩ ?_
    intro cx fin fin0
    refine aG ?_
    repeat (first | refine gw ?_ | refine gN fun _ => ?_ | refine gB fun _ => ?_ | fail)
    refine W.drawH tab_ok 14 [.b false, .b false, .b false, .b false, .b false, .b false, .b false, .b false, .b false, .b false, .b true, .b false, .b true, .b true] [0,2] follows (by decide +kernel) (by decide +kernel) rfl (by decide) rfl ?_
    intro _
    refine dG ?_
    repeat (first | refine dL ?_ | refine dS ?_ | (refine dN ?_; intro _; refine dG ?_) | (refine dB ?_; intro _; refine dG ?_) | fail)
    refine dV (OpVal.load tab_ok rfl (.inr (List.mem_append_right _ (List.mem_cons_of_mem _ (List.mem_append_left _ hb)))) rfl) ?_
    repeat (first | refine dL ?_ | refine dS ?_ | (refine dN ?_; intro _; refine dG ?_) | (refine dB ?_; intro _; refine dG ?_) | fail)
    refine dC (o := hG) (h := ?_) (hro := RoIn.all (fun q hq => List.mem_append_right _ (List.mem_cons_of_mem _ (List.mem_append_right _ hq))))
    rintro _ _ ⟨rfl, Hp2, rfl, hp2⟩
    refine dG ?_
    refine dV (OpVal.build (ps := [_]) tab_ok rfl rfl rfl rfl (by repeat (first | exact trivial | refine ⟨⟨_, _, _, rfl, rfl, rfl⟩, ?_⟩)) rfl) ?_
    refine dC (o := hC) (h := ?_)
    rintro _ _ ⟨rfl, rfl⟩
    refine dG ?_
    repeat (first | refine dL ?_ | refine dS ?_ | (refine dN ?_; intro _; refine dG ?_) | (refine dB ?_; intro _; refine dG ?_) | fail)
    refine WD.nil (W.dropNil (aG ?_))
    repeat (first | refine gw ?_ | refine gN fun _ => ?_ | refine gB fun _ => ?_ | fail)
    refine W.ret (fin _ _ (FinOk.first 1 (aRc .nil) rfl ?_))
    exact ⟨_, rfl, rfl, hp2⟩
theorem UnpinC_spec (m : Mc) (b bp : Nat) (H : HL) (hm : MAt m b bp H) (p : Pt) (hi : p.Inv) (Hp : HL) (hp : PtAt p bp Hp) (q : Rq) (aq : Option Addr) (cq : Nat) (b1 : Nat) :
    Ctr Tryz.prog 103 [q.v aq cq, .pointer (some ⟨b1, 0, none⟩)] [Hp] ((b1, .cells #[.pointer (some ⟨b, 0, none⟩)] 51 (0, 0)) :: H) (fun v L' => ∃ Hp', v = (Re.dn (p.doPage q.page Fr.unpin).2).v none 0 0 ∧ L' = [Hp'] ∧ PtAt (p.doPage q.page Fr.unpin).1 bp Hp') := by
  obtain ⟨t, g, ⟨at_, ct, rfl⟩, ⟨ag, cg, rfl⟩, hb⟩ := hm.head
  have hG := PUnpin_spec p hi bp Hp hp q.page
  have hC := done_spec (p.doPage q.page Fr.unpin).2
  obtain ⟨qo, qp, qf, ql, qd⟩ := q
  simp only at *
  refine Ctr.enter (n := 12) [.cell 3 90] [(0, _), (1, _)] Tryz.func103 rfl rfl rfl (lb rfl) Tryz.call103 ⟨rfl, rfl, trivial⟩ ?_
  intro cx fin fin0
  refine aG ?_
  repeat (first | refine gw ?_ | refine gN fun _ => ?_ | refine gB fun _ => ?_ | fail)
  refine W.drawH tab_ok 9 [.b false, .b false, .b false, .b false, .b false, .b false, .b true, .b true, .b true] [0,2] follows (by decide +kernel) (by decide +kernel) rfl (by decide) rfl ?_
  intro _
  refine dG ?_
  repeat (first | refine dL ?_ | refine dS ?_ | (refine dN ?_; intro _; refine dG ?_) | (refine dB ?_; intro _; refine dG ?_) | fail)
  refine dV (OpVal.load tab_ok rfl (.inr (List.mem_append_right _ (List.mem_cons_of_mem _ hb))) rfl) ?_
  repeat (first | refine dL ?_ | refine dS ?_ | (refine dN ?_; intro _; refine dG ?_) | (refine dB ?_; intro _; refine dG ?_) | fail)
  refine dC (o := hG) (h := ?_)
  rintro _ _ ⟨rfl, Hp2, rfl, hp2⟩
  refine dG ?_
  refine dC (o := hC) (h := ?_)
  rintro _ _ ⟨rfl, rfl⟩
  refine dG ?_
  repeat (first | refine dL ?_ | refine dS ?_ | (refine dN ?_; intro _; refine dG ?_) | (refine dB ?_; intro _; refine dG ?_) | fail)
  refine WD.nil (W.dropNil (aG ?_))
  repeat (first | refine gw ?_ | refine gN fun _ => ?_ | refine gB fun _ => ?_ | fail)
  refine W.ret (fin _ _ (FinOk.first 1 (aRc .nil) rfl ?_))
  exact ⟨_, rfl, rfl, hp2⟩
theorem FlushC_spec (m : Mc) (b bp : Nat) (H : HL) (hm : MAt m b bp H) (p : Pt) (hi : p.Inv) (Hp : HL) (hp : PtAt p bp Hp) (q : Rq) (aq : Option Addr) (cq : Nat) (b1 : Nat) :
    Ctr Tryz.prog 105 [q.v aq cq, .pointer (some ⟨b1, 0, none⟩)] [H] ((b1, .cells #[.pointer (some ⟨b, 0, none⟩)] 51 (0, 0)) :: Hp) (fun v L' => ∃ H', v = (⟨false, 0, false, [], C6.none⟩ : Re).v none 0 0 ∧ L' = [H'] ∧ MAt { m with todo := planFlush (selD p q.page p.dirty) } b bp H') := by
  have hF := MFlush_spec m b bp H hm p hi Hp hp q.page
  obtain ⟨qo, qp, qf, ql, qd⟩ := q
  simp only at *
  refine Ctr.enter (n := 8) [.cell 3 90] [(0, _), (1, _)] Tryz.func105 rfl rfl rfl (lb rfl) Tryz.call105 ⟨rfl, rfl, trivial⟩ ?_
  intro cx fin fin0
  refine aG ?_
  repeat (first | refine gw ?_ | refine gN fun _ => ?_ | refine gB fun _ => ?_ | fail)
  refine aC (o := hF) (h := ?_) (hro := RoIn.all (fun q hq => List.mem_cons_of_mem _ hq))
  rintro _ _ ⟨H2, rfl, rfl, hm2⟩
  refine aG ?_
  repeat (first | refine gw ?_ | refine gN fun _ => ?_ | refine gB fun _ => ?_ | fail)
  refine W.ret (fin _ _ (FinOk.first 1 (aRc .nil) rfl ?_))
  exact ⟨_, rfl, rfl, hm2⟩
theorem FlushAllC_spec (m : Mc) (b bp : Nat) (H : HL) (hm : MAt m b bp H) (p : Pt) (hi : p.Inv) (Hp : HL) (hp : PtAt p bp Hp) (q : Rq) (aq : Option Addr) (cq : Nat) (b1 : Nat) :
    Ctr Tryz.prog 107 [q.v aq cq, .pointer (some ⟨b1, 0, none⟩)] [H] ((b1, .cells #[.pointer (some ⟨b, 0, none⟩)] 51 (0, 0)) :: Hp) (fun v L' => ∃ H', v = (⟨false, 0, false, [], C6.none⟩ : Re).v none 0 0 ∧ L' = [H'] ∧ MAt { m with todo := planFlush (selD p (-1) p.dirty) } b bp H') := by
  have hF := MFlush_spec m b bp H hm p hi Hp hp (-1)
  obtain ⟨qo, qp, qf, ql, qd⟩ := q
  refine Ctr.enter (n := 6) [.cell 3 90] [(0, _), (1, _)] Tryz.func107 rfl rfl rfl (lb rfl) Tryz.call107 ⟨rfl, rfl, trivial⟩ ?_
  intro cx fin fin0
  refine aG ?_
  repeat (first | refine gw ?_ | refine gN fun _ => ?_ | refine gB fun _ => ?_ | fail)
  refine aC (o := hF) (h := ?_) (hro := RoIn.all (fun q hq => List.mem_cons_of_mem _ hq))
  rintro _ _ ⟨H2, rfl, rfl, hm2⟩
  refine aG ?_
  repeat (first | refine gw ?_ | refine gN fun _ => ?_ | refine gB fun _ => ?_ | fail)
  refine W.ret (fin _ _ (FinOk.first 1 (aRc .nil) rfl ?_))
  exact ⟨_, rfl, rfl, hm2⟩
theorem StatsC_spec (q : Rq) (aq : Option Addr) (cq : Nat) : Ctr Tryz.prog 109 [q.v aq cq] [] [] (fun v L' => v = (Re.dn 0).v none 0 0 ∧ L' = []) := by
  obtain ⟨qo, qp, qf, ql, qd⟩ := q
  refine Ctr.enter (n := 4) [.cell 2 90] [(0, _)] Tryz.func109 rfl rfl rfl (lb rfl) Tryz.call109 ⟨rfl, trivial⟩ ?_
  intro cx fin fin0
  refine aG ?_
  repeat (first | refine gw ?_ | refine gN fun _ => ?_ | refine gB fun _ => ?_ | fail)
  refine aC (o := done_spec 0) (h := ?_)
  rintro _ _ ⟨rfl, rfl⟩
  refine aG ?_
  repeat (first | refine gw ?_ | refine gN fun _ => ?_ | refine gB fun _ => ?_ | fail)
  refine W.ret (fin _ _ (FinOk.mk' ([]) (aRc .nil) (by repeat (first | exact Sel.nil | (apply Sel.cons; (repeat (first | exact Pick.here | apply Pick.there))))) rfl ?_))
  exact ⟨rfl, rfl⟩
def mOp (m : Mc) (p : Pt) (q : Rq) : Mc × Pt × Re :=
  if q.op = 1 then mFetch m p else if q.op = 2 then (m, mRead p q) else if q.op = 3 then (m, mWrite p q) else if q.op = 4 then (m, (p.doPage q.page Fr.unpin).1, Re.dn (p.doPage q.page Fr.unpin).2)
  else if q.op = 5 then ({ m with todo := planFlush (selD p q.page p.dirty) }, p, ⟨false, 0, false, [], C6.none⟩) else if q.op = 6 then ({ m with todo := planFlush (selD p (-1) p.dirty) }, p, ⟨false, 0, false, [], C6.none⟩)
  else if q.op = 7 then (m, (mDiscard p q.page).1, Re.dn (mDiscard p q.page).2) else (m, p, Re.dn 0)
def OpPost (r : Mc × Pt × Re) (b bp : Nat) (v : Value) (L' : List HL) : Prop := ∃ a n c H' Hp' Hd, v = r.2.2.v a n c ∧ L' = [H', Hp', Hd] ∧ MAt r.1 b bp H' ∧ PtAt r.2.1 bp Hp' ∧ RoSl 1 (u8s r.2.2.data) a n Hd ∧ r.2.2.data.length = n
def opV (b b1 : Nat) (k : Int) : Value :=
  if k = 1 then .func (.func 97) #[.pointer (some ⟨b, 0, none⟩)] #[] else if k = 2 then .func (.func 98) #[] #[.pointer (some ⟨b1, 0, none⟩)]
  else if k = 3 then .func (.func 101) #[] #[.pointer (some ⟨b1, 0, none⟩)] else if k = 4 then .func (.func 103) #[] #[.pointer (some ⟨b1, 0, none⟩)]
  else if k = 5 then .func (.func 105) #[] #[.pointer (some ⟨b1, 0, none⟩)] else if k = 6 then .func (.func 107) #[] #[.pointer (some ⟨b1, 0, none⟩)]
  else if k = 7 then .func (.func 108) #[.pointer (some ⟨b, 0, none⟩)] #[] else .func (.func 109) #[] #[]
def opsMap (b b1 : Nat) : List (Int × Value) := [(1, opV b b1 1), (2, opV b b1 2), (3, opV b b1 3), (4, opV b b1 4), (5, opV b b1 5), (6, opV b b1 6), (7, opV b b1 7), (8, opV b b1 8)]
theorem ops_get (b b1 : Nat) {k : Int} (h1 : 1 ≤ k) (h2 : k ≤ 8) : mget (opsMap b b1) k = some (opV b b1 k) := by
  obtain rfl | rfl | rfl | rfl | rfl | rfl | rfl | rfl : k = 1 ∨ k = 2 ∨ k = 3 ∨ k = 4 ∨ k = 5 ∨ k = 6 ∨ k = 7 ∨ k = 8 := by omega
  all_goals rfl
theorem empty_ro : RoSl 1 (u8s []) none 0 [] := ⟨rfl, .inl ⟨rfl, rfl⟩⟩
theorem Op_spec (m : Mc) (b bp : Nat) (H : HL) (hm : MAt m b bp H) (p : Pt) (hi : p.Inv) (Hp : HL) (hp : PtAt p bp Hp) (q : Rq) (h1 : 1 ≤ q.op) (h8 : q.op ≤ 8) (hq : q.page = m.page) (ho : i64s q.off) (aq : Option Addr) (cq : Nat) (rq : HL) (hrq : RoSl 1 (u8s q.data) aq q.data.length rq) (b1 : Nat) :
    CtrV Tryz.prog (opV b b1 q.op) [q.v aq cq] [Hp, H] ((b1, .cells #[.pointer (some ⟨b, 0, none⟩)] 51 (0, 0)) :: rq) (OpPost (mOp m p q) b bp) := by
  have hF := fetch_spec m b bp H hm p hi Hp hp q hq aq cq
  have hR := Read_spec m b bp H hm p hi Hp hp q ho aq cq b1
  have hW := Write_spec m b bp H hm p hi Hp hp q ho aq cq rq hrq b1
  have hU := UnpinC_spec m b bp H hm p hi Hp hp q aq cq b1
  have hFl := FlushC_spec m b bp H hm p hi Hp hp q aq cq b1
  have hFa := FlushAllC_spec m b bp H hm p hi Hp hp q aq cq b1
  have hD := Discard_spec m b bp H hm p hi Hp hp q aq cq
  have hS := StatsC_spec q aq cq
  have hop : q.op = 1 ∨ q.op = 2 ∨ q.op = 3 ∨ q.op = 4 ∨ q.op = 5 ∨ q.op = 6 ∨ q.op = 7 ∨ q.op = 8 := by omega
  have r1 : ∀ x ∈ ((b1, Obj.cells #[.pointer (some ⟨b, 0, none⟩)] 51 (0, 0)) :: H), x ∈ H ∨ x ∈ ((b1, Obj.cells #[.pointer (some ⟨b, 0, none⟩)] 51 (0, 0)) :: rq) := fun x hx => by
    rcases List.mem_cons.1 hx with rfl | hx
    · exact .inr (List.mem_cons_self)
    · exact .inl hx
  have r2 : ∀ x ∈ ((b1, Obj.cells #[.pointer (some ⟨b, 0, none⟩)] 51 (0, 0)) :: (H ++ rq)), x ∈ H ∨ x ∈ ((b1, Obj.cells #[.pointer (some ⟨b, 0, none⟩)] 51 (0, 0)) :: rq) := fun x hx => by
    rcases List.mem_cons.1 hx with rfl | hx
    · exact .inr (List.mem_cons_self)
    · rcases List.mem_append.1 hx with hx | hx
      · exact .inl hx
      · exact .inr (List.mem_cons_of_mem _ hx)
  have r3 : ∀ x ∈ ((b1, Obj.cells #[.pointer (some ⟨b, 0, none⟩)] 51 (0, 0)) :: Hp), x ∈ Hp ∨ x ∈ ((b1, Obj.cells #[.pointer (some ⟨b, 0, none⟩)] 51 (0, 0)) :: rq) := fun x hx => by
    rcases List.mem_cons.1 hx with rfl | hx
    · exact .inr (List.mem_cons_self)
    · exact .inl hx
  rcases hop with h | h | h | h | h | h | h | h
  · have e : mOp m p q = mFetch m p := by unfold mOp; rw [h]; rfl
    rw [e, h]
    refine Ctr.v (fst := [.pointer (some ⟨b, 0, none⟩)]) (cap := []) (((hF.sel (pre' := [Hp, H]) (X := []) (by repeat (first | exact Sel.nil | (apply Sel.cons; (repeat (first | exact Pick.here | apply Pick.there))))) (fun _ h => h)).ro (fun _ h => by cases h)).out ?_) rfl
    rintro _ _ ⟨_, rfl, H', Hp', rfl, rfl, h2, h3⟩
    have hd : (mFetch m p).2.2.data = [] := by
      unfold mFetch mMiss
      split
      · split <;> rfl
      · split <;> rfl
    exact ⟨[H', Hp'], [H', Hp', []], _, by repeat (first | exact Sel.nil | (apply Sel.cons; (repeat (first | exact Pick.here | apply Pick.there)))), by simp, none, 0, 0, _, _, _, rfl, rfl, h2, h3, by rw [hd]; exact empty_ro, by rw [hd]; rfl⟩
  · have e : mOp m p q = (m, mRead p q) := by unfold mOp; rw [h]; rfl
    rw [e, h]
    refine Ctr.v (fst := []) (cap := [.pointer (some ⟨b1, 0, none⟩)]) ((hR.own r1).out ?_) rfl
    rintro _ _ ⟨_, rfl, a, n, c, Hp', Hd, rfl, rfl, h2, h3, h4⟩
    exact ⟨[H, Hp', Hd], [H, Hp', Hd], _, by repeat (first | exact Sel.nil | (apply Sel.cons; (repeat (first | exact Pick.here | apply Pick.there)))), rfl, a, n, c, _, _, _, rfl, rfl, hm, h2, h3, h4⟩
  · have e : mOp m p q = (m, mWrite p q) := by unfold mOp; rw [h]; rfl
    rw [e, h]
    refine Ctr.v (fst := []) (cap := [.pointer (some ⟨b1, 0, none⟩)]) ((hW.own r2).out ?_) rfl
    rintro _ _ ⟨_, rfl, Hp', rfl, rfl, h2⟩
    have hd : (mWrite p q).2.data = [] := by unfold mWrite; simp only; split <;> rfl
    exact ⟨[H, Hp'], [H, Hp', []], _, by repeat (first | exact Sel.nil | (apply Sel.cons; (repeat (first | exact Pick.here | apply Pick.there)))), by simp, none, 0, 0, _, _, _, rfl, rfl, hm, h2, by rw [hd]; exact empty_ro, by rw [hd]; rfl⟩
  · have e : mOp m p q = (m, (p.doPage q.page Fr.unpin).1, Re.dn (p.doPage q.page Fr.unpin).2) := by unfold mOp; rw [h]; rfl
    rw [e, h]
    refine Ctr.v (fst := []) (cap := [.pointer (some ⟨b1, 0, none⟩)]) ((hU.own r1).out ?_) rfl
    rintro _ _ ⟨_, rfl, Hp', rfl, rfl, h2⟩
    exact ⟨[H, Hp'], [H, Hp', []], _, by repeat (first | exact Sel.nil | (apply Sel.cons; (repeat (first | exact Pick.here | apply Pick.there)))), by simp, none, 0, 0, _, _, _, rfl, rfl, hm, h2, empty_ro, rfl⟩
  · have e : mOp m p q = ({ m with todo := planFlush (selD p q.page p.dirty) }, p, ⟨false, 0, false, [], C6.none⟩) := by unfold mOp; rw [h]; rfl
    rw [e, h]
    refine Ctr.v (fst := []) (cap := [.pointer (some ⟨b1, 0, none⟩)]) (((hFl.own r3).sel (pre' := [Hp, H]) (X := []) (by repeat (first | exact Sel.nil | (apply Sel.cons; (repeat (first | exact Pick.here | apply Pick.there))))) (fun _ h => h)).out ?_) rfl
    rintro _ _ ⟨_, rfl, _, rfl, H', rfl, rfl, h2⟩
    exact ⟨[H', Hp], [H', Hp, []], _, by repeat (first | exact Sel.nil | (apply Sel.cons; (repeat (first | exact Pick.here | apply Pick.there)))), by simp, none, 0, 0, _, _, _, rfl, rfl, h2, hp, empty_ro, rfl⟩
  · have e : mOp m p q = ({ m with todo := planFlush (selD p (-1) p.dirty) }, p, ⟨false, 0, false, [], C6.none⟩) := by unfold mOp; rw [h]; rfl
    rw [e, h]
    refine Ctr.v (fst := []) (cap := [.pointer (some ⟨b1, 0, none⟩)]) (((hFa.own r3).sel (pre' := [Hp, H]) (X := []) (by repeat (first | exact Sel.nil | (apply Sel.cons; (repeat (first | exact Pick.here | apply Pick.there))))) (fun _ h => h)).out ?_) rfl
    rintro _ _ ⟨_, rfl, _, rfl, H', rfl, rfl, h2⟩
    exact ⟨[H', Hp], [H', Hp, []], _, by repeat (first | exact Sel.nil | (apply Sel.cons; (repeat (first | exact Pick.here | apply Pick.there)))), by simp, none, 0, 0, _, _, _, rfl, rfl, h2, hp, empty_ro, rfl⟩
  · have e : mOp m p q = (m, (mDiscard p q.page).1, Re.dn (mDiscard p q.page).2) := by unfold mOp; rw [h]; rfl
    rw [e, h]
    refine Ctr.v (fst := [.pointer (some ⟨b, 0, none⟩)]) (cap := []) ((hD.own (H := H) (fun _ h => .inl h)).out ?_) rfl
    rintro _ _ ⟨_, rfl, Hp', rfl, rfl, h2⟩
    exact ⟨[H, Hp'], [H, Hp', []], _, by repeat (first | exact Sel.nil | (apply Sel.cons; (repeat (first | exact Pick.here | apply Pick.there)))), by simp, none, 0, 0, _, _, _, rfl, rfl, hm, h2, empty_ro, rfl⟩
  · have e : mOp m p q = (m, p, Re.dn 0) := by unfold mOp; rw [h]; rfl
    rw [e, h]
    refine Ctr.v (fst := []) (cap := []) (((hS.frame [Hp, H]).ro (fun _ h => by cases h)).out ?_) rfl
    rintro _ _ ⟨_, rfl, rfl, rfl⟩
    exact ⟨[H, Hp], [H, Hp, []], _, by repeat (first | exact Sel.nil | (apply Sel.cons; (repeat (first | exact Pick.here | apply Pick.there)))), by simp, none, 0, 0, _, _, _, rfl, rfl, hm, hp, empty_ro, rfl⟩
theorem Ops_spec (b : Nat) : Ctr Tryz.prog 80 [.pointer (some ⟨b, 0, none⟩)] [] [] (fun v L' => ∃ bm b1 Hm, v = .map (some bm) ∧ L' = [Hm, [(b1, .cells #[.pointer (some ⟨b, 0, none⟩)] 51 (0, 0))]] ∧ IsMp .i64 id (opsMap b b1) bm Hm) := by
  refine Ctr.enter (n := 14) [.tmp 2] [(0, _)] Tryz.func80 rfl rfl rfl (lb rfl) Tryz.call80 ⟨rfl, trivial⟩ ?_
  intro cx fin fin0
  refine aG ?_
  refine aB ?_
  intro b1
  refine aG ?_
  refine aW NewOf.map ?_
  intro bm
  refine aG ?_
  have hm0 : IsMp .i64 id ([] : List (Int × Value)) bm [(bm, .map #[] 0)] := ⟨#[], 0, rfl, rfl⟩
  generalize hH : [(bm, Obj.map #[] 0)] = Hm0 at hm0
  repeat (first | refine gw ?_ | refine gN fun _ => ?_ | refine gB fun _ => ?_ | fail)
  refine aSkp (mapIns (f := id) (v := opV b b1 1) Tryz.underlying157 Tryz.underlying3 rfl rfl rfl (by intro p hp; simp [hp]) hm0) ?_
  rintro _ ⟨Hm1, rfl, hm1⟩
  refine aG ?_
  repeat (first | refine gw ?_ | refine gN fun _ => ?_ | refine gB fun _ => ?_ | fail)
  refine aSkp (mapIns (f := id) (v := opV b b1 2) Tryz.underlying157 Tryz.underlying3 rfl rfl rfl (by intro p hp; simp [hp]) hm1) ?_
  rintro _ ⟨Hm2, rfl, hm2⟩
  refine aG ?_
  repeat (first | refine gw ?_ | refine gN fun _ => ?_ | refine gB fun _ => ?_ | fail)
  refine aSkp (mapIns (f := id) (v := opV b b1 3) Tryz.underlying157 Tryz.underlying3 rfl rfl rfl (by intro p hp; simp [hp]) hm2) ?_
  rintro _ ⟨Hm3, rfl, hm3⟩
  refine aG ?_
  repeat (first | refine gw ?_ | refine gN fun _ => ?_ | refine gB fun _ => ?_ | fail)
  refine aSkp (mapIns (f := id) (v := opV b b1 4) Tryz.underlying157 Tryz.underlying3 rfl rfl rfl (by intro p hp; simp [hp]) hm3) ?_
  rintro _ ⟨Hm4, rfl, hm4⟩
  refine aG ?_
  repeat (first | refine gw ?_ | refine gN fun _ => ?_ | refine gB fun _ => ?_ | fail)
  refine aSkp (mapIns (f := id) (v := opV b b1 5) Tryz.underlying157 Tryz.underlying3 rfl rfl rfl (by intro p hp; simp [hp]) hm4) ?_
  rintro _ ⟨Hm5, rfl, hm5⟩
  refine aG ?_
  repeat (first | refine gw ?_ | refine gN fun _ => ?_ | refine gB fun _ => ?_ | fail)
  refine aSkp (mapIns (f := id) (v := opV b b1 6) Tryz.underlying157 Tryz.underlying3 rfl rfl rfl (by intro p hp; simp [hp]) hm5) ?_
  rintro _ ⟨Hm6, rfl, hm6⟩
  refine aG ?_
  repeat (first | refine gw ?_ | refine gN fun _ => ?_ | refine gB fun _ => ?_ | fail)
  refine aSkp (mapIns (f := id) (v := opV b b1 7) Tryz.underlying157 Tryz.underlying3 rfl rfl rfl (by intro p hp; simp [hp]) hm6) ?_
  rintro _ ⟨Hm7, rfl, hm7⟩
  refine aG ?_
  repeat (first | refine gw ?_ | refine gN fun _ => ?_ | refine gB fun _ => ?_ | fail)
  refine aSkp (mapIns (f := id) (v := opV b b1 8) Tryz.underlying157 Tryz.underlying3 rfl rfl rfl (by intro p hp; simp [hp]) hm7) ?_
  rintro _ ⟨Hm8, rfl, hm8⟩
  refine aG ?_
  repeat (first | refine gw ?_ | refine gN fun _ => ?_ | refine gB fun _ => ?_ | fail)
  refine W.ret (fin _ _ (FinOk.first 2 (.tmp rfl .nil) rfl ?_))
  exact ⟨bm, b1, _, rfl, rfl, hm8⟩
end Go.Proofs.YtfajcpnbhnddbaaGreat
namespace Go.Proofs.YtfajcpnbhnddbaaGreat
open Go Go.Sl Go.IntWalk
set_option maxHeartbeats 8000000
set_option maxRecDepth 20000
def mBegin (m : Mc) (p : Pt) (q : Rq) : Mc × Pt × Re := mOp { m with op := q.op, page := q.page } p q
theorem Begin_spec (m : Mc) (b bp : Nat) (H : HL) (hm : MAt m b bp H) (p : Pt) (hi : p.Inv) (Hp : HL) (hp : PtAt p bp Hp) (q : Rq) (h1 : 1 ≤ q.op) (h8 : q.op ≤ 8) (ho : i64s q.off) (aq : Option Addr) (cq : Nat) (rq : HL) (hrq : RoSl 1 (u8s q.data) aq q.data.length rq) :
    Ctr Tryz.prog 56 [.pointer (some ⟨b, 0, none⟩), q.v aq cq] [H, Hp] rq (OpPost (mBegin m p q) b bp) := by
  obtain ⟨a, ct, ag, cg, Ht, Hg, rfl, hro, hct, hown⟩ := hm
  have hops := Ops_spec b
  have hCV := fun b1 H1 hm1 => Op_spec { m with op := q.op, page := q.page } b bp H1 hm1 p hi Hp hp q h1 h8 rfl ho aq cq rq hrq b1
  have hget := fun b1 => ops_get b b1 h1 h8
  have hb : mBegin m p q = mOp { m with op := q.op, page := q.page } p q := rfl
  rw [hb]
  generalize mOp { m with op := q.op, page := q.page } p q = out at *
  obtain ⟨qo, qp, qf, ql, qd⟩ := q
  simp only at *
  refine Ctr.enter (n := 22) [.cell 4 90] [(0, _), (1, _)] Tryz.func56 rfl rfl rfl (lb rfl) Tryz.call56 ⟨rfl, rfl, trivial⟩ ?_
  intro cx fin fin0
  refine aG ?_
  repeat (first | refine gw ?_ | refine gN fun _ => ?_ | refine gB fun _ => ?_ | fail)
  refine W.order [2, 0, 0, 0] rfl ?_
  refine W.split3 rfl ?_
  refine aG ?_
  refine W.drawH tab_ok 12 [.b false, .b false, .b false, .b false, .b false, .b false, .b false, .b false, .b true, .b false, .b false, .b true] [0] follows (by decide +kernel) (by decide +kernel) rfl (by decide) rfl ?_
  intro _
  refine dG ?_
  repeat (first | refine dL ?_ | refine dS ?_ | (refine dN ?_; intro _; refine dG ?_) | (refine dB ?_; intro _; refine dG ?_) | fail)
  refine WD.nil (W.dropNil (aG ?_))
  refine W.groupV [0, 0, 0] rfl ?_
  have hm1 : MAt ⟨qo, qp, m.to, m.todo, m.got⟩ b bp _ := ⟨a, ct, ag, cg, Ht, Hg, rfl, hro, hct, hown⟩
  have hCV1 := fun b1 => hCV b1 _ hm1
  refine aG ?_
  refine W.drawH tab_ok 8 [.b false, .b true, .b false, .b false, .b true, .b false, .b true, .b true] [0,1,3] follows (by decide +kernel) (by decide +kernel) rfl (by decide) rfl ?_
  intro _
  refine dG ?_
  refine dC (o := hops) (h := ?_)
  rintro _ _ ⟨bm, b1, Hm, rfl, rfl, es, clock, rfl, hmap⟩
  refine dG ?_
  repeat (first | refine dL ?_ | refine dS ?_ | (refine dN ?_; intro _; refine dG ?_) | (refine dB ?_; intro _; refine dG ?_) | fail)
  refine dVA (OpVal.lookup1 Tryz.underlying157 Tryz.underlying3 rfl rfl (at_own 0 rfl) hmap (hget b1)) ?_
  repeat (first | refine dL ?_ | refine dS ?_ | (refine dN ?_; intro _; refine dG ?_) | (refine dB ?_; intro _; refine dG ?_) | fail)
  refine WD.callV rfl rfl rfl (hCV1 b1) (by repeat (first | exact Sel.nil | (apply Sel.cons; (repeat (first | exact Pick.here | apply Pick.there))))) (RoIn.cons (at_own 1 rfl) (RoIn.all fun q hq => List.mem_append_right _ hq)) (lb rfl) ?_
  rintro _ _ ⟨an, nn, cn, H', Hp', Hd, rfl, rfl, g1, g2, g3, g4⟩
  refine dG ?_
  repeat (first | refine dL ?_ | refine dS ?_ | (refine dN ?_; intro _; refine dG ?_) | (refine dB ?_; intro _; refine dG ?_) | fail)
  refine WD.nil (W.dropNil (aG ?_))
  repeat (first | refine gw ?_ | refine gN fun _ => ?_ | refine gB fun _ => ?_ | fail)
  refine W.ret (fin _ _ (FinOk.first 3 (aRc .nil) rfl ?_))
  exact ⟨_, _, _, _, _, _, rfl, rfl, g1, g2, g3, g4⟩
def mStep (m : Mc) (p : Pt) (bs : List Int) : Mc × Pt × C6 :=
  if m.io.1 = 2 ∧ m.io.2.2 = 1 then ({ m with todo := m.todo.tail }, mStored m p m.io.2.1) else if m.io.1 = 1 then ({ m with todo := m.todo.tail, got := m.got ++ bs }, p, C6.none) else ({ m with todo := m.todo.tail }, p, C6.none)
def mEnd (m : Mc) (p : Pt) (e : Int) (bs : List Int) : Mc × Pt × Re :=
  if e ≠ 0 then (Mc.idle, p, ⟨true, 9, false, [], ⟨0, 0, 0, 0, 0, 1⟩⟩)
  else if 0 < (mStep m p bs).1.todo.length then ((mStep m p bs).1, (mStep m p bs).2.1, ⟨false, 0, false, [], (mStep m p bs).2.2⟩)
  else (Mc.idle, if m.op = 1 then (((mStep m p bs).2.1.load m.to m.page (mStep m p bs).1.got).1.doPage m.page Fr.pin).1 else (mStep m p bs).2.1, ⟨true, 0, false, [], (mStep m p bs).2.2⟩)
theorem End_spec (m : Mc) (hne : m.todo ≠ []) (b bp : Nat) (H : HL) (hm : MAt m b bp H) (p : Pt) (hi : p.Inv) (Hp : HL) (hp : PtAt p bp Hp) (e : Int) (bs : List Int) (ab : Option Addr) (cb : Nat) (rb : HL) (hrb : RoSl 1 (u8s bs) ab bs.length rb)
    (hok : e = 0 → m.got.length + bs.length ≤ 100000 ∧ (mStep m p bs).2.1.Inv ∧ ((mStep m p bs).2.1.load m.to m.page (mStep m p bs).1.got).1.Inv) :
    Ctr Tryz.prog 34 [.pointer (some ⟨b, 0, none⟩), .int .i64 e, .slice ab bs.length cb] [H, Hp] rb (fun v L' => ∃ H' Hp', v = (mEnd m p e bs).2.2.v none 0 0 ∧ L' = [H', Hp'] ∧ MAt (mEnd m p e bs).1 b bp H' ∧ PtAt (mEnd m p e bs).2.1 bp Hp') := by
  have hStop := Stop_spec m b bp H hm
  have hdone := done_spec 9
  obtain ⟨a, ct, ag, cg, Ht, Hg, rfl, hro, hct, hown⟩ := hm
  have hout : mEnd m p e bs = mEnd m p e bs := rfl
  conv at hout => rhs; unfold mEnd
  generalize mEnd m p e bs = out at *
  by_cases he : e = 0
  · obtain ⟨hlen, hsi, hli⟩ := hok he
    rw [if_neg (by simpa using he)] at hout
    obtain ⟨mo, mpg, mto, todo, mgot⟩ := m
    cases todo with
    | nil => exact absurd rfl hne
    | cons x rest =>
      obtain ⟨xk, xp, xq⟩ := x
      have h0 : 0 < ((xk, xp, xq) :: rest).length := by simp
      have hl1 : 1 ≤ ((xk, xp, xq) :: rest).length := by simp
      obtain ⟨bx, ox, lx, ex, frx, hbx, hHt, hs, -⟩ := RoSl.at (f := io3) (m := 3) (fun _ => rfl) hro h0
      have hro2 : RoSl 3 (ios rest) (a.map fun ad => if ct = 1 then ad else ad.add (1 * 3)) rest.length Ht := by
        rcases RoSl.drop (f := io3) (cap := ct) (fun _ => rfl) hro 1 hl1 with h | h
        · exact h
        · omega
      have hct2 : rest.length ≤ ct - 1 := by simp at hct; omega
      subst hbx hHt
      refine Ctr.enter (n := 97) [.cell 6 90] [(0, _), (1, _), (2, _)] Tryz.func34 rfl rfl rfl (lb rfl) Tryz.call34 ⟨rfl, rfl, rfl, trivial⟩ ?_
      intro cx fin fin0
      refine aG ?_
      repeat (first | refine gw ?_ | refine gN fun _ => ?_ | refine gB fun _ => ?_ | fail)
      refine aF ?_ (hb := by exact gd he)
      refine W.order [1, 1, 0] rfl ?_
      refine W.split3 rfl ?_
      refine aG ?_
      repeat (first | refine gw ?_ | refine gN fun _ => ?_ | refine gB fun _ => ?_ | fail)
      refine aV (OpVal.ixSl tab_ok rfl rfl rfl rfl rfl h0) ?_
      refine aV (OpVal.loadN ty_93.1 ty_93.2 rfl (at_own 1 rfl) hs) ?_
      repeat (first | refine gw ?_ | refine gN fun _ => ?_ | refine gB fun _ => ?_ | fail)
      refine aV (OpVal.back tab_ok rfl rfl rfl rfl rfl hl1 hct) ?_
      repeat (first | refine gw ?_ | refine gN fun _ => ?_ | refine gB fun _ => ?_ | fail)
      have hms : mStep ⟨mo, mpg, mto, (xk, xp, xq) :: rest, mgot⟩ p bs = if xk = 2 ∧ xq = 1 then (⟨mo, mpg, mto, rest, mgot⟩, mStored ⟨mo, mpg, mto, rest, mgot⟩ p xp) else if xk = 1 then (⟨mo, mpg, mto, rest, mgot ++ bs⟩, p, C6.none) else (⟨mo, mpg, mto, rest, mgot⟩, p, C6.none) := rfl
      have hgl : mgot.length + bs.length ≤ 100000 := hlen
      generalize mStep ⟨mo, mpg, mto, (xk, xp, xq) :: rest, mgot⟩ p bs = st at *
      by_cases hA : xk = 2 ∧ xq = 1
      case' pos =>
        rw [if_pos hA] at hms
        obtain ⟨rfl, rfl⟩ := hA
        repeat (first | refine gx ?_ | refine gN fun _ => ?_ | refine gB fun _ => ?_ | fail)
        refine W.groupV [2, 2, 2] rfl ?_
        have hm1 : MAt ⟨mo, mpg, mto, rest, mgot⟩ b bp _ := ⟨_, _, _, _, _, _, rfl, hro2, hct2, hown⟩
        have hSt := Stored_spec ⟨mo, mpg, mto, rest, mgot⟩ b bp _ hm1 p hi Hp hp xp
        refine aG ?_
        repeat (first | refine gx ?_ | refine gN fun _ => ?_ | refine gB fun _ => ?_ | fail)
        refine aC (o := hSt) (h := ?_) (hro := RoIn.own 0 rfl)
        rintro _ _ ⟨Hp2, rfl, rfl, hp2⟩
        refine aG ?_
        repeat (first | refine gx ?_ | refine gN fun _ => ?_ | refine gB fun _ => ?_ | fail)
        refine W.order [1, 0, 0, 0, 0] rfl ?_
        refine W.split3 rfl ?_
        have hown2 := hown
      case' neg =>
        rw [if_neg hA] at hms
        have hp2 := hp
        by_cases hB : xk = 1
        case' pos =>
          rw [if_pos hB] at hms
          subst hB
          repeat (first | refine gx ?_ | refine gN fun _ => ?_ | refine gB fun _ => ?_ | fail)
          refine aPr (appU8 tab_ok rfl rfl rfl hown (by intro p hp; simp [hp]) rfl hrb (fun q hq => .inr hq) (by omega) (by omega)) ?_
          rintro _ _ ⟨ag2, cg2, Hg2, rfl, rfl, hown2⟩
          refine aG ?_
          repeat (first | refine gx ?_ | refine gN fun _ => ?_ | refine gB fun _ => ?_ | fail)
          have hm1 : MAt ⟨mo, mpg, mto, rest, mgot ++ bs⟩ b bp _ := ⟨_, _, _, _, _, _, rfl, hro2, hct2, hown2⟩
          refine W.order [3, 3, 0, 2, 0, 0, 0] rfl ?_
          refine aG ?_
        case' neg =>
          rw [if_neg hB] at hms
          have hown2 := hown
          have hm1 : MAt ⟨mo, mpg, mto, rest, mgot⟩ b bp _ := ⟨_, _, _, _, _, _, rfl, hro2, hct2, hown⟩
          by_cases h2 : xk = 2
          case' pos =>
            have hq1 : ¬ xq = 1 := fun h => hA ⟨h2, h⟩
            subst h2
            repeat (first | refine gh hq1 ?_ | refine gN fun _ => ?_ | refine gB fun _ => ?_ | fail)
          case' neg =>
            repeat (first | refine gh (gc2 h2 hB) ?_ | refine gN fun _ => ?_ | refine gB fun _ => ?_ | fail)
          all_goals
            refine W.order [2, 2, 2, 2, 0, 0, 0] rfl ?_
            refine aG ?_
      all_goals
        refine aC (o := Busy_spec _ b bp _ hm1) (h := ?_) (hro := RoIn.append (RoIn.own 0 rfl) (RoIn.append (RoIn.own 1 rfl) (RoIn.own 2 rfl)))
        rintro _ _ ⟨rfl, rfl⟩
        refine aG ?_
        cases rest with
        | cons y rest =>
          have hpos : 0 < st.1.todo.length := by rw [hms]; simp
          rw [if_pos hpos] at hout
          subst hout hms
          repeat (first | refine gx ?_ | refine gN fun _ => ?_ | refine gB fun _ => ?_ | fail)
          refine W.groupV [0, 0, 0] rfl ?_
          refine W.order [0, 0, 2] rfl ?_
          refine W.ret (fin _ _ (FinOk.first 2 (aRc .nil) rfl ?_))
          exact ⟨_, _, rfl, rfl, hm1, hp2⟩
        | nil =>
          have hpos : ¬ 0 < st.1.todo.length := by rw [hms]; simp
          rw [if_neg hpos] at hout
          repeat (first | refine gx ?_ | refine gN fun _ => ?_ | refine gB fun _ => ?_ | fail)
          by_cases ho : mo = 1
          case' pos =>
            rw [if_pos ho] at hout
            subst ho
            subst hms
            have hL := fun cb => Load_spec _ hsi.ok bp _ hp2 mto mpg _ _ cb _ (Own.roSl hown2)
            repeat (first | refine gx ?_ | refine gN fun _ => ?_ | refine gB fun _ => ?_ | fail)
            refine W.drawH tab_ok 17 [.b false, .b false, .b false, .b false, .b false, .b false, .b false, .b false, .b false, .b false, .b false, .b false, .b false, .b false, .b false, .b false, .b true] [3] follows (by decide +kernel) (by decide +kernel) rfl (by decide) rfl ?_
            intro _
            refine dG ?_
            repeat (first | refine dL ?_ | refine dS ?_ | (refine dN ?_; intro _; refine dG ?_) | (refine dB ?_; intro _; refine dG ?_) | fail)
            refine dC (o := hL _) (h := ?_) (hro := RoIn.all (fun q hq => by simp [hq]))
            rintro _ _ ⟨rfl, Hp3, rfl, hp3⟩
            refine dG ?_
            refine WD.nil (W.dropNil (aG ?_))
            have hPn := PPin_spec _ hli bp Hp3 hp3 mpg
            refine W.drawH tab_ok 9 [.b false, .b false, .b false, .b false, .b false, .b false, .b false, .b false, .b true] [0] follows (by decide +kernel) (by decide +kernel) rfl (by decide) rfl ?_
            intro _
            refine dG ?_
            repeat (first | refine dL ?_ | refine dS ?_ | (refine dN ?_; intro _; refine dG ?_) | (refine dB ?_; intro _; refine dG ?_) | fail)
            refine dC (o := hPn) (h := ?_)
            rintro _ _ ⟨rfl, Hp4, rfl, hp4⟩
            refine dG ?_
            refine WD.nil (W.dropNil (aG ?_))
            refine W.groupV [1, 1, 1] rfl ?_
            have hp5 := hp4
          case' neg =>
            rw [if_neg ho] at hout
            subst hms
            repeat (first | refine gh ho ?_ | refine gN fun _ => ?_ | refine gB fun _ => ?_ | fail)
            refine W.groupV [0, 0, 0] rfl ?_
            have hp5 := hp2
          all_goals
            subst hout
            refine aG ?_
            refine aC (o := Stop_spec _ b bp _ hm1) (h := ?_)
            rintro _ _ ⟨H', rfl, hm'⟩
            refine aG ?_
            repeat (first | refine gw ?_ | refine gN fun _ => ?_ | refine gB fun _ => ?_ | fail)
            refine W.order [0, 0, 2] rfl ?_
            refine W.ret (fin _ _ (FinOk.first 2 (aRc .nil) rfl ?_))
            exact ⟨_, _, rfl, rfl, hm', hp5⟩
  · rw [if_pos (by simpa using he)] at hout
    subst hout
    refine Ctr.enter (n := 97) [.cell 6 90] [(0, _), (1, _), (2, _)] Tryz.func34 rfl rfl rfl (lb rfl) Tryz.call34 ⟨rfl, rfl, rfl, trivial⟩ ?_
    intro cx fin fin0
    refine aG ?_
    repeat (first | refine gw ?_ | refine gN fun _ => ?_ | refine gB fun _ => ?_ | fail)
    refine aT ?_ (hb := by exact gd he)
    refine aC (o := hStop) (h := ?_)
    rintro _ _ ⟨H', rfl, hm'⟩
    refine aG ?_
    refine aC (o := hdone) (h := ?_)
    rintro _ _ ⟨rfl, rfl⟩
    refine aG ?_
    repeat (first | refine gw ?_ | refine gN fun _ => ?_ | refine gB fun _ => ?_ | fail)
    refine W.order [1, 2, 1] rfl ?_
    refine W.ret (fin _ _ (FinOk.first 2 (aRc .nil) rfl ?_))
    exact ⟨_, _, rfl, rfl, hm', hp⟩
end Go.Proofs.YtfajcpnbhnddbaaGreat
namespace Go.Proofs.YtfajcpnbhnddbaaGreat
open Go Go.Sl Go.IntWalk
set_option maxHeartbeats 8000000
set_option maxRecDepth 20000
theorem turn_some {hand : Nat} : ∀ {m k : Nat} {fs : List Fl} {i q : Nat}, (turnFrom hand m k fs).2 = some (i, q) → 0 < fs.length → i < fs.length ∧ (((turnFrom hand m k fs).1.getD i Fl.none).used = false ∨ ((turnFrom hand m k fs).1.getD i Fl.none).pins = 0)
  | 0, k, fs, i, q, h, _ => by cases h
  | m + 1, k, fs, i, q, h, h0 => by
    have hc := Nat.mod_lt (hand + k) h0
    unfold turnFrom at h ⊢
    split at h
    · rename_i hg
      simp only [Option.some.injEq, Prod.mk.injEq] at h
      obtain ⟨rfl, -⟩ := h
      rw [if_pos hg]
      refine ⟨hc, ?_⟩
      simp only
      rw [getD_set_eq hc]
      generalize fs.getD ((hand + k) % fs.length) Fl.none = f at hg
      unfold Fl.goes at hg ⊢
      split
      · rename_i hu; exact .inl hu
      · rename_i hu
        rw [if_neg hu] at hg
        split
        · rename_i hp; exact .inr hp
        · rename_i hp; rw [if_neg hp] at hg; cases hg
    · rename_i hg
      rw [if_neg hg]
      have := turn_some h (by simpa using h0)
      simpa using this
theorem victim_some {p : Pt} (hi : p.Inv) {i : Nat} (h : p.victim.2 = some i) : i < p.victim.1.fs.length ∧ (p.victim.1.at_ (i : Int)).pins = 0 := by
  have hl : p.victim.1.fs.length = p.fs.length := setAll_len _ _
  have h1 := hi.ok.2.1
  have hv := Pt.victim_inv hi
  unfold Pt.victim at h
  simp only [Option.map_eq_some_iff, Prod.exists, exists_and_right, exists_eq_right] at h
  obtain ⟨q, hq⟩ := h
  have := turn_some hq (by simp; omega)
  obtain ⟨h2, h3⟩ := this
  have h4 : i < p.fs.length := by simpa using h2
  refine ⟨by omega, ?_⟩
  rw [Pt.at_nat (by omega)]
  have h5 : (turnFrom p.hand.toNat (2 * p.fs.length) 0 (p.fs.map Fr.fl)).1.length = p.fs.length := by rw [turnFrom_len]; simp
  have h6 : p.victim.1.fs[i]'(by omega) = p.fs[i].setFl ((turnFrom p.hand.toNat (2 * p.fs.length) 0 (p.fs.map Fr.fl)).1[i]'(by omega)) := setAll_get _ _ i (by rw [setAll_len]; exact h4) h4 (by omega)
  have h7 : (turnFrom p.hand.toNat (2 * p.fs.length) 0 (p.fs.map Fr.fl)).1.getD i Fl.none = (turnFrom p.hand.toNat (2 * p.fs.length) 0 (p.fs.map Fr.fl)).1[i]'(by omega) := getD_eq (by omega)
  rw [h7] at h3
  rcases h3 with h3 | h3
  · have h8 := hv.emp (p.victim.1.fs[i]'(by omega)) (List.getElem_mem _) (by rw [h6]; exact h3)
    rw [h8]
    rfl
  · rw [h6]
    exact h3
def DocM (m : Mc) (p : Pt) (v : Value) (D : HL) : Prop := ∃ a c r at_ ct rt ag cg rg, v = .agg (List.toArray [.slice a p.fs.length c, .int .i64 p.hand, .int .i64 m.op, .int .i64 m.page, .slice at_ m.todo.length ct, .int .i64 m.to, .slice ag m.got.length cg]) ∧
  RoSl 6 (dflat p.fs) a p.fs.length r ∧ RoSl 3 (ios m.todo) at_ m.todo.length rt ∧ RoSl 1 (u8s m.got) ag m.got.length rg ∧ m.todo.length ≤ ct ∧ (∀ q ∈ r, q ∈ D) ∧ (∀ q ∈ rt, q ∈ D) ∧ (∀ q ∈ rg, q ∈ D)
theorem DocM.mono {m : Mc} {p : Pt} {v : Value} {D D' : HL} (h : DocM m p v D) (hs : ∀ q ∈ D, q ∈ D') : DocM m p v D' := by
  obtain ⟨a, c, r, at_, ct, rt, ag, cg, rg, h1, h2, h3, h4, h5, h6, h7, h8⟩ := h
  exact ⟨a, c, r, at_, ct, rt, ag, cg, rg, h1, h2, h3, h4, h5, fun q hq => hs q (h6 q hq), fun q hq => hs q (h7 q hq), fun q hq => hs q (h8 q hq)⟩
def Re.d (r : Re) : Value := .agg #[.bool r.done, .int .i64 r.errno, .bool r.hit, .string (bstr r.data), .int .u64 r.add.h, .int .u64 r.add.m, .int .u64 r.add.e, .int .u64 r.add.r, .int .u64 r.add.w, .int .u64 r.add.f]
def DocOut (o : Mc × Pt × Re) (D : HL) (v : Value) (L' : List HL) : Prop := ∃ H v1, L' = [H] ∧ v = .tuple #[v1, o.2.2.d] ∧ DocM o.1 o.2.1 v1 (H ++ D)
theorem release_fs {p : Pt} {i : Nat} (hi : i < p.fs.length) (h0 : (p.at_ (i : Int)).pins = 0) : (p.release (i : Int)).1.fs = p.fs.set i Fr.zero ∧ (p.release (i : Int)).1.hand = p.hand := by
  unfold Pt.release
  rw [if_neg (by unfold inFr; omega), if_pos h0, Int.toNat_natCast]
  exact ⟨rfl, rfl⟩
theorem RMiss_spec (m : Mc) (p : Pt) (hi : p.Inv) (v : Value) (D : HL) (hd : DocM m p v D) : Ctr Tryz.prog 114 [v, .int .i64 m.page] [] D (DocOut (mMiss m p) D) := by
  obtain ⟨a, c, r, at_, ct, rt, ag, cg, rg, rfl, h2, h3, h4, h5, h6, h7, h8⟩ := hd
  have hV := RVictim_spec p hi (.agg #[.slice a p.fs.length c, .int .i64 p.hand]) D ⟨a, c, r, rfl, h2, h6⟩
  have hvi := Pt.victim_inv hi
  have hsmall := hvi.ok.2.2
  have hout : mMiss m p = mMiss m p := rfl
  conv at hout => rhs; unfold mMiss
  generalize mMiss m p = out at *
  cases hv : p.victim.2 with
  | none =>
    rw [hv] at hV hout
    simp only at hV hout
    subst hout
    refine Ctr.enter (n := 58) [.cell 4 36, .cell 5 150] [(0, _), (1, _)] Tryz.func114 rfl rfl rfl (lb rfl) Tryz.call114 ⟨rfl, rfl, trivial⟩ ?_
    intro cx fin fin0
    refine aG ?_
    repeat (first | refine gw ?_ | refine gN fun _ => ?_ | refine gB fun _ => ?_ | fail)
    refine aC (o := hV) (h := ?_) (hro := RoIn.all (fun p hp => by simp [hp]))
    rintro _ _ ⟨H, v1, rfl, rfl, a2, c2, r2, rfl, hro2, hsub2⟩
    refine aG ?_
    repeat (first | refine gx ?_ | refine gN fun _ => ?_ | refine gB fun _ => ?_ | fail)
    refine aBu (ps := [_]) ?_
    refine aBu (ps := [_]) ?_
    repeat (first | refine gx ?_ | refine gN fun _ => ?_ | refine gB fun _ => ?_ | fail)
    refine W.drawH tab_ok 4 [.b false, .b false, .b true, .b true] [3,4] follows (by decide +kernel) (by decide +kernel) rfl (by decide) rfl ?_
    intro _
    refine dG ?_
    repeat (first | refine dL ?_ | refine dS ?_ | (refine dN ?_; intro _; refine dG ?_) | (refine dB ?_; intro _; refine dG ?_) | fail)
    refine WD.nil (W.dropNil (aG ?_))
    refine W.order [4, 0, 0] rfl ?_
    refine W.ret (fin _ _ (FinOk.first 1 (aRc (aRc .nil)) rfl ?_))
    exact ⟨H, _, rfl, rfl, a2, c2, r2, at_, ct, rt, ag, cg, rg, rfl, hro2, h3, h4, h5, hsub2, fun q hq => List.mem_append_right _ (h7 q hq), fun q hq => List.mem_append_right _ (h8 q hq)⟩
  | some j =>
    rw [hv] at hV hout
    obtain ⟨hj, hpins⟩ := victim_some hi hv
    simp only at hV hout
    have hW := fun v D hd f => RWith_spec p.victim.1.fs hvi.ok.2.1 hvi.ok.2.2 p.victim.1.hand v D hd j hj f
    have hPl := RFetch_spec m.page (p.victim.1.at_ (j : Int)).page (p.victim.1.at_ (j : Int)).dirty
    have hpl4 := plan_len m.page (p.victim.1.at_ (j : Int)).page (p.victim.1.at_ (j : Int)).dirty
    have hrel := release_fs hj hpins
    have hat := Pt.at_nat hj
    refine Ctr.enter (n := 58) [.cell 4 36, .cell 5 150] [(0, _), (1, _)] Tryz.func114 rfl rfl rfl (lb rfl) Tryz.call114 ⟨rfl, rfl, trivial⟩ ?_
    intro cx fin fin0
    refine aG ?_
    repeat (first | refine gw ?_ | refine gN fun _ => ?_ | refine gB fun _ => ?_ | fail)
    refine aC (o := hV) (h := ?_) (hro := RoIn.all (fun p hp => by simp [hp]))
    rintro _ _ ⟨H, v1, rfl, rfl, a2, c2, r2, rfl, hro2, hsub2⟩
    refine aG ?_
    repeat (first | refine gx ?_ | refine gN fun _ => ?_ | refine gB fun _ => ?_ | fail)
    refine aBu (ps := [_]) ?_
    refine aBu (ps := [_]) ?_
    repeat (first | refine gx ?_ | refine gN fun _ => ?_ | refine gB fun _ => ?_ | fail)
    obtain ⟨bx, ox, lx, ex, frx, rfl, hmem, hseg, hld⟩ := doc_at hro2 hj
    rw [← hat] at hseg
    have hat2 : ∀ (L : List HL), H ∈ L → At D L bx (.cells lx.toArray ex frx) := fun L hL => by
      rcases List.mem_append.1 (hsub2 _ hmem) with h | h
      · exact .inl (List.mem_flatten.2 ⟨_, hL, h⟩)
      · exact .inr h
    generalize p.victim.1.at_ (j : Int) = f at *
    obtain ⟨fu, fd, fr, fn, fp, fb⟩ := f
    refine aV (OpVal.ixSl tab_ok rfl rfl rfl rfl rfl hj) ?_
    refine aV (OpVal.loadN ty_141.1 ty_141.2 rfl (hat2 _ (by simp)) hseg) ?_
    repeat (first | refine gx ?_ | refine gN fun _ => ?_ | refine gB fun _ => ?_ | fail)
    refine aC (o := hPl) (h := ?_)
    rintro _ _ ⟨an, cn, Hn, rfl, rfl, hn⟩
    refine aG ?_
    cases fu
    case' true => cases fd
    case' true.false =>
      subst hout
      have hE := REmpty_spec
      repeat (first | refine gx ?_ | refine gN fun _ => ?_ | refine gB fun _ => ?_ | fail)
      refine W.drawH tab_ok 7 [.b false, .b true, .b false, .b false, .b true, .b false, .b true] [7] follows (by decide +kernel) (by decide +kernel) rfl (by decide) rfl ?_
      intro _
      refine dG ?_
      repeat (first | refine dL ?_ | refine dS ?_ | (refine dN ?_; intro _; refine dG ?_) | (refine dB ?_; intro _; refine dG ?_) | fail)
      refine dLA ?_
      refine dQ (o := hE) (h := ?_)
      refine dC (o := hW _ (H ++ D) ⟨_, c2, _, rfl, hro2, hsub2⟩ Fr.zero) (h := ?_) (hro := RoIn.all (fun q hq => (List.mem_append.1 hq).elim (fun h => by simp [h]) (fun h => by simp [h])))
      rintro _ _ ⟨H2, rfl, a3, c3, r3, rfl, hro3, hsub3⟩
      refine dG ?_
      repeat (first | refine dL ?_ | refine dS ?_ | (refine dN ?_; intro _; refine dG ?_) | (refine dB ?_; intro _; refine dG ?_) | fail)
      refine WD.nil (W.dropNil (aG ?_))
      repeat (first | refine gx ?_ | refine gN fun _ => ?_ | refine gB fun _ => ?_ | fail)
      refine W.drawH tab_ok 4 [.b false, .b false, .b true, .b true] [7,8] follows (by decide +kernel) (by decide +kernel) rfl (by decide) rfl ?_
      intro _
      refine dG ?_
      repeat (first | refine dL ?_ | refine dS ?_ | (refine dN ?_; intro _; refine dG ?_) | (refine dB ?_; intro _; refine dG ?_) | fail)
      refine WD.nil (W.dropNil (aG ?_))
      refine W.groupV [4, 2] rfl ?_
      refine W.ret (fin _ _ (FinOk.first 1 (aRc (aRc .nil)) rfl ?_))
      rw [if_pos ⟨rfl, rfl⟩, if_pos ⟨rfl, rfl⟩]
      rw [← hrel.1, ← hrel.2] at *
      exact ⟨Hn ++ H2, _, rfl, rfl, _, c3, _, an, cn, _, ag, cg, rg, rfl, hro3, hn.roSl, h4, hn.cap_le, fun q hq => by simp [hsub3 q hq], fun q hq => by simp [hq], fun q hq => List.mem_append_right _ (h8 q hq)⟩
    case' some.false =>
      subst hout
      repeat (first | refine gx ?_ | refine gN fun _ => ?_ | refine gB fun _ => ?_ | fail)
      refine W.drawH tab_ok 4 [.b false, .b false, .b true, .b true] [5,6] follows (by decide +kernel) (by decide +kernel) rfl (by decide) rfl ?_
      intro _
      refine dG ?_
      repeat (first | refine dL ?_ | refine dS ?_ | (refine dN ?_; intro _; refine dG ?_) | (refine dB ?_; intro _; refine dG ?_) | fail)
      refine WD.nil (W.dropNil (aG ?_))
      refine W.groupV [2, 5] rfl ?_
      refine W.ret (fin _ _ (FinOk.first 1 (aRc (aRc .nil)) rfl ?_))
      rw [if_neg (by simp), if_neg (by simp)]
      exact ⟨Hn ++ H, _, rfl, rfl, _, c2, _, an, cn, _, ag, cg, rg, rfl, hro2, hn.roSl, h4, hn.cap_le, fun q hq => (List.mem_append.1 (hsub2 q hq)).elim (fun h => by simp [h]) (fun h => by simp [h]), fun q hq => by simp [hq], fun q hq => List.mem_append_right _ (h8 q hq)⟩
    case' true.true =>
      subst hout
      repeat (first | refine gx ?_ | refine gN fun _ => ?_ | refine gB fun _ => ?_ | fail)
      refine W.drawH tab_ok 4 [.b false, .b false, .b true, .b true] [5,6] follows (by decide +kernel) (by decide +kernel) rfl (by decide) rfl ?_
      intro _
      refine dG ?_
      repeat (first | refine dL ?_ | refine dS ?_ | (refine dN ?_; intro _; refine dG ?_) | (refine dB ?_; intro _; refine dG ?_) | fail)
      refine WD.nil (W.dropNil (aG ?_))
      refine W.groupV [2, 5] rfl ?_
      refine W.ret (fin _ _ (FinOk.first 1 (aRc (aRc .nil)) rfl ?_))
      rw [if_neg (by simp), if_neg (by simp)]
      exact ⟨Hn ++ H, _, rfl, rfl, _, c2, _, an, cn, _, ag, cg, rg, rfl, hro2, hn.roSl, h4, hn.cap_le, fun q hq => (List.mem_append.1 (hsub2 q hq)).elim (fun h => by simp [h]) (fun h => by simp [h]), fun q hq => by simp [hq], fun q hq => List.mem_append_right _ (h8 q hq)⟩
end Go.Proofs.YtfajcpnbhnddbaaGreat
namespace Go.Proofs.YtfajcpnbhnddbaaGreat
open Go Go.Sl Go.IntWalk
set_option maxHeartbeats 8000000
set_option maxRecDepth 20000
theorem doPageHand (p : Pt) (page : Int) (g : Fr → Fr × Int) : (p.doPage page g).1.hand = p.hand := by unfold Pt.doPage; split <;> rfl
theorem getHand (p : Pt) (page off n : Int) : (p.get page off n).1.hand = p.hand := by unfold Pt.get; split <;> rfl
theorem releaseHand (p : Pt) (i : Int) : (p.release i).1.hand = p.hand := by
  unfold Pt.release
  split
  · rfl
  · split <;> rfl
theorem DocM.keep {m' : Mc} {p' : Pt} {a c r at_ ct rt ag cg rg} {D H : HL} (h2 : RoSl 6 (dflat p'.fs) a p'.fs.length r) (h3 : RoSl 3 (ios m'.todo) at_ m'.todo.length rt) (h4 : RoSl 1 (u8s m'.got) ag m'.got.length rg) (h5 : m'.todo.length ≤ ct)
    (h6 : ∀ q ∈ r, q ∈ H ++ D) (h7 : ∀ q ∈ rt, q ∈ H ++ D) (h8 : ∀ q ∈ rg, q ∈ D) :
    DocM m' p' (.agg (List.toArray [.slice a p'.fs.length c, .int .i64 p'.hand, .int .i64 m'.op, .int .i64 m'.page, .slice at_ m'.todo.length ct, .int .i64 m'.to, .slice ag m'.got.length cg])) (H ++ D) :=
  ⟨a, c, r, at_, ct, rt, ag, cg, rg, rfl, h2, h3, h4, h5, h6, h7, fun q hq => List.mem_append_right _ (h8 q hq)⟩
theorem RBegin4_spec (m : Mc) (p : Pt) (hi : p.Inv) (v : Value) (D : HL) (hd : DocM m p v D) (q : Rq) (h : q.op = 4) (aq : Option Addr) (cq : Nat) : Ctr Tryz.prog 91 [v, q.v aq cq] [] D (DocOut (mBegin m p q) D) := by
  obtain ⟨qo, qp, qf, ql, qd⟩ := q
  simp only at h
  subst h
  obtain ⟨a, c, r, at_, ct, rt, ag, cg, rg, rfl, h2, h3, h4, h5, h6, h7, h8⟩ := hd
  have hF := RFindP_spec p hi p.hand (.agg #[.slice a p.fs.length c, .int .i64 p.hand]) D ⟨a, c, r, rfl, h2, h6⟩ qp
  have hDo := RDo1_spec p hi (.agg #[.slice a p.fs.length c, .int .i64 p.hand]) D ⟨a, c, r, rfl, h2, h6⟩ qp
  have hh := doPageHand p qp Fr.unpin
  have hb : mBegin m p ⟨4, qp, qf, ql, qd⟩ = (⟨4, qp, m.to, m.todo, m.got⟩, (p.doPage qp Fr.unpin).1, Re.dn (p.doPage qp Fr.unpin).2) := rfl
  rw [hb]
  generalize p.doPage qp Fr.unpin = o at *
  obtain ⟨p', e⟩ := o
  simp only at *
  refine Ctr.enter (n := 210) [.cell 4 36, .cell 5 150] [(0, _), (1, _)] Tryz.func91 rfl rfl rfl (lb rfl) Tryz.call91 ⟨rfl, rfl, trivial⟩ ?_
  intro cx fin fin0
  refine aG ?_
  repeat (first | refine gw ?_ | refine gN fun _ => ?_ | refine gB fun _ => ?_ | fail)
  refine aC (o := hF) (h := ?_) (hro := RoIn.all (fun p hp => by simp [hp]))
  rintro _ _ ⟨rfl, rfl⟩
  refine aG ?_
  repeat (first | refine gx ?_ | refine gN fun _ => ?_ | refine gB fun _ => ?_ | fail)
  refine aC (o := hDo) (h := ?_) (hro := RoIn.all (fun p hp => by simp [hp]))
  rintro _ _ ⟨H, v1, rfl, rfl, a2, c2, r2, rfl, hro2, hsub2⟩
  refine aG ?_
  rw [← hh]
  repeat (first | refine gx ?_ | refine gN fun _ => ?_ | refine gB fun _ => ?_ | fail)
  refine aBu (ps := [_, _]) ?_
  repeat (first | refine gx ?_ | refine gN fun _ => ?_ | refine gB fun _ => ?_ | fail)
  refine W.order [1, 1, 1] rfl ?_
  refine W.ret (fin _ _ (FinOk.first 1 (aRc (aRc .nil)) rfl ?_))
  exact ⟨H, _, rfl, rfl, DocM.keep (p' := p') (m' := ⟨4, qp, m.to, m.todo, m.got⟩) (by assumption) h3 h4 h5 hsub2 (fun q hq => by simp [h7 q hq]) h8⟩
theorem RBegin8_spec (m : Mc) (p : Pt) (hi : p.Inv) (v : Value) (D : HL) (hd : DocM m p v D) (q : Rq) (h : q.op = 8) (aq : Option Addr) (cq : Nat) : Ctr Tryz.prog 91 [v, q.v aq cq] [] D (DocOut (mBegin m p q) D) := by
  obtain ⟨qo, qp, qf, ql, qd⟩ := q
  simp only at h
  subst h
  obtain ⟨a, c, r, at_, ct, rt, ag, cg, rg, rfl, h2, h3, h4, h5, h6, h7, h8⟩ := hd
  have hF := RFindP_spec p hi p.hand (.agg #[.slice a p.fs.length c, .int .i64 p.hand]) D ⟨a, c, r, rfl, h2, h6⟩ qp
  have hb : mBegin m p ⟨8, qp, qf, ql, qd⟩ = (⟨8, qp, m.to, m.todo, m.got⟩, p, Re.dn 0) := rfl
  rw [hb]
  refine Ctr.enter (n := 210) [.cell 4 36, .cell 5 150] [(0, _), (1, _)] Tryz.func91 rfl rfl rfl (lb rfl) Tryz.call91 ⟨rfl, rfl, trivial⟩ ?_
  intro cx fin fin0
  refine aG ?_
  repeat (first | refine gw ?_ | refine gN fun _ => ?_ | refine gB fun _ => ?_ | fail)
  refine aC (o := hF) (h := ?_) (hro := RoIn.all (fun p hp => by simp [hp]))
  rintro _ _ ⟨rfl, rfl⟩
  refine aG ?_
  repeat (first | refine gx ?_ | refine gN fun _ => ?_ | refine gB fun _ => ?_ | fail)
  refine aBu (ps := [_]) ?_
  repeat (first | refine gx ?_ | refine gN fun _ => ?_ | refine gB fun _ => ?_ | fail)
  refine W.nilChunk ?_
  refine W.order [0, 0, 0] rfl ?_
  refine W.ret (fin _ _ (FinOk.first 1 (aRc (aRc .nil)) rfl ?_))
  have H : HL := []
  exact ⟨[], _, rfl, rfl, DocM.keep (p' := p) (m' := ⟨8, qp, m.to, m.todo, m.got⟩) (H := []) (by assumption) h3 h4 h5 h6 h7 h8⟩
theorem RBegin2_spec (m : Mc) (p : Pt) (hi : p.Inv) (v : Value) (D : HL) (hd : DocM m p v D) (q : Rq) (h : q.op = 2) (ho : i64s q.off) (hl : i64s q.len) (aq : Option Addr) (cq : Nat) : Ctr Tryz.prog 91 [v, q.v aq cq] [] D (DocOut (mBegin m p q) D) := by
  obtain ⟨qo, qp, qf, ql, qd⟩ := q
  simp only at h
  subst h
  obtain ⟨a, c, r, at_, ct, rt, ag, cg, rg, rfl, h2, h3, h4, h5, h6, h7, h8⟩ := hd
  have hF := RFindP_spec p hi p.hand (.agg #[.slice a p.fs.length c, .int .i64 p.hand]) D ⟨a, c, r, rfl, h2, h6⟩ qp
  have hDo := RDo2_spec p hi (.agg #[.slice a p.fs.length c, .int .i64 p.hand]) D ⟨a, c, r, rfl, h2, h6⟩ qp qf ql ho hl
  have hh := getHand p qp qf ql
  have hb : mBegin m p ⟨2, qp, qf, ql, qd⟩ = (⟨2, qp, m.to, m.todo, m.got⟩, (p.get qp qf ql).1, if (p.get qp qf ql).2.2 = 0 then ⟨true, 0, false, (p.get qp qf ql).2.1, ⟨0, 0, 0, 1, 0, 0⟩⟩ else Re.dn (p.get qp qf ql).2.2) := rfl
  rw [hb]
  generalize p.get qp qf ql = o at *
  obtain ⟨p', bs, e⟩ := o
  simp only at *
  refine Ctr.enter (n := 210) [.cell 4 36, .cell 5 150] [(0, _), (1, _)] Tryz.func91 rfl rfl rfl (lb rfl) Tryz.call91 ⟨rfl, rfl, trivial⟩ ?_
  intro cx fin fin0
  refine aG ?_
  repeat (first | refine gw ?_ | refine gN fun _ => ?_ | refine gB fun _ => ?_ | fail)
  refine aC (o := hF) (h := ?_) (hro := RoIn.all (fun p hp => by simp [hp]))
  rintro _ _ ⟨rfl, rfl⟩
  refine aG ?_
  repeat (first | refine gx ?_ | refine gN fun _ => ?_ | refine gB fun _ => ?_ | fail)
  refine aC (o := hDo) (h := ?_) (hro := RoIn.all (fun p hp => by simp [hp]))
  rintro _ _ ⟨H, v1, ab, lb, cb, rfl, rfl, ⟨a2, c2, r2, rfl, hro2, hsub2⟩, rb, hsb, hrb, rfl⟩
  refine aG ?_
  rw [← hh]
  by_cases he : e = 0
  · subst he
    repeat (first | refine gx ?_ | refine gN fun _ => ?_ | refine gB fun _ => ?_ | fail)
    refine W.drawH tab_ok 7 [.b false, .b false, .b false, .b false, .b false, .b true, .b true] [2,3] follows (by decide +kernel) (by decide +kernel) rfl (by decide) rfl ?_
    intro _
    refine dG ?_
    repeat (first | refine dL ?_ | refine dS ?_ | (refine dN ?_; intro _; refine dG ?_) | (refine dB ?_; intro _; refine dG ?_) | fail)
    refine dV (OpVal.bytesStr tab_ok rfl rfl rfl rfl hrb (fun q hq => .inr (List.mem_append_left _ (List.mem_flatten.2 ⟨H, by simp, hsb q hq⟩)))) ?_
    refine dV (OpVal.build (ps := [_]) tab_ok rfl rfl rfl rfl (by repeat (first | exact trivial | refine ⟨⟨_, _, _, rfl, rfl, rfl⟩, ?_⟩)) rfl) ?_
    refine dV (OpVal.build (ps := [_, _, _]) tab_ok rfl rfl rfl rfl (by repeat (first | exact trivial | refine ⟨⟨_, _, _, rfl, rfl, rfl⟩, ?_⟩)) rfl) ?_
    repeat (first | refine dL ?_ | refine dS ?_ | (refine dN ?_; intro _; refine dG ?_) | (refine dB ?_; intro _; refine dG ?_) | fail)
    refine WD.nil (W.dropNil (aG ?_))
    refine W.order [3, 0, 0] rfl ?_
    refine W.ret (fin _ _ (FinOk.first 1 (aRc (aRc .nil)) rfl ?_))
    rw [if_pos rfl]
    exact ⟨H, _, rfl, rfl, DocM.keep (p' := p') (m' := ⟨2, qp, m.to, m.todo, m.got⟩) (by assumption) h3 h4 h5 hsub2 (fun q hq => by simp [h7 q hq]) h8⟩
  · skip
    repeat (first | refine gh he ?_ | refine gN fun _ => ?_ | refine gB fun _ => ?_ | fail)
    refine aBu (ps := [_, _]) ?_
    repeat (first | refine gx ?_ | refine gN fun _ => ?_ | refine gB fun _ => ?_ | fail)
    refine W.order [1, 1, 1] rfl ?_
    refine W.ret (fin _ _ (FinOk.first 1 (aRc (aRc .nil)) rfl ?_))
    rw [if_neg he]
    exact ⟨H, _, rfl, rfl, DocM.keep (p' := p') (m' := ⟨2, qp, m.to, m.todo, m.got⟩) (by assumption) h3 h4 h5 hsub2 (fun q hq => by simp [h7 q hq]) h8⟩
theorem RBegin3_spec (m : Mc) (p : Pt) (hi : p.Inv) (v : Value) (D : HL) (hd : DocM m p v D) (q : Rq) (h : q.op = 3) (ho : i64s q.off) (aq : Option Addr) (cq : Nat) (hqd : q.data.length ≤ 1000000) (rq : HL) (hrq : RoSl 1 (u8s q.data) aq q.data.length rq) : Ctr Tryz.prog 91 [v, q.v aq cq] [] (D ++ rq) (DocOut (mBegin m p q) D) := by
  obtain ⟨qo, qp, qf, ql, qd⟩ := q
  simp only at h
  subst h
  obtain ⟨a, c, r, at_, ct, rt, ag, cg, rg, rfl, h2, h3, h4, h5, h6, h7, h8⟩ := hd
  have hF := RFindP_spec p hi p.hand (.agg #[.slice a p.fs.length c, .int .i64 p.hand]) D ⟨a, c, r, rfl, h2, h6⟩ qp
  have hDo := RDo3_spec p hi (.agg #[.slice a p.fs.length c, .int .i64 p.hand]) D ⟨a, c, r, rfl, h2, h6⟩ qp qf ho qd aq cq hqd rq hrq
  have hh := doPageHand p qp (fun f => f.put qf qd)
  have hb : mBegin m p ⟨3, qp, qf, ql, qd⟩ = (⟨3, qp, m.to, m.todo, m.got⟩, (p.doPage qp (fun f => f.put qf qd)).1, if (p.doPage qp (fun f => f.put qf qd)).2 = 0 then ⟨true, 0, false, [], ⟨0, 0, 0, 0, 1, 0⟩⟩ else Re.dn (p.doPage qp (fun f => f.put qf qd)).2) := rfl
  rw [hb]
  generalize p.doPage qp (fun f => f.put qf qd) = o at *
  obtain ⟨p', e⟩ := o
  simp only at *
  refine Ctr.enter (n := 210) [.cell 4 36, .cell 5 150] [(0, _), (1, _)] Tryz.func91 rfl rfl rfl (lb rfl) Tryz.call91 ⟨rfl, rfl, trivial⟩ ?_
  intro cx fin fin0
  refine aG ?_
  repeat (first | refine gw ?_ | refine gN fun _ => ?_ | refine gB fun _ => ?_ | fail)
  refine aC (o := hF) (h := ?_) (hro := RoIn.all (fun p hp => by simp [hp]))
  rintro _ _ ⟨rfl, rfl⟩
  refine aG ?_
  repeat (first | refine gx ?_ | refine gN fun _ => ?_ | refine gB fun _ => ?_ | fail)
  refine aC (o := hDo) (h := ?_) (hro := RoIn.all (fun p hp => by simp at hp; simp [hp]))
  rintro _ _ ⟨H, v1, rfl, rfl, a2, c2, r2, rfl, hro2, hsub2⟩
  refine aG ?_
  rw [← hh]
  by_cases he : e = 0
  · subst he
    repeat (first | refine gx ?_ | refine gN fun _ => ?_ | refine gB fun _ => ?_ | fail)
    refine aBu (ps := [_]) ?_
    refine aBu (ps := [_, _]) ?_
    repeat (first | refine gx ?_ | refine gN fun _ => ?_ | refine gB fun _ => ?_ | fail)
    refine W.order [1, 1, 1] rfl ?_
    refine W.ret (fin _ _ (FinOk.first 1 (aRc (aRc .nil)) rfl ?_))
    rw [if_pos rfl]
    exact ⟨H, _, rfl, rfl, DocM.keep (p' := p') (m' := ⟨3, qp, m.to, m.todo, m.got⟩) (by assumption) h3 h4 h5 hsub2 (fun q hq => by simp [h7 q hq]) h8⟩
  · skip
    repeat (first | refine gh he ?_ | refine gN fun _ => ?_ | refine gB fun _ => ?_ | fail)
    refine aBu (ps := [_, _]) ?_
    repeat (first | refine gx ?_ | refine gN fun _ => ?_ | refine gB fun _ => ?_ | fail)
    refine W.order [1, 1, 1] rfl ?_
    refine W.ret (fin _ _ (FinOk.first 1 (aRc (aRc .nil)) rfl ?_))
    rw [if_neg he]
    exact ⟨H, _, rfl, rfl, DocM.keep (p' := p') (m' := ⟨3, qp, m.to, m.todo, m.got⟩) (by assumption) h3 h4 h5 hsub2 (fun q hq => by simp [h7 q hq]) h8⟩
theorem RBegin7_spec (m : Mc) (p : Pt) (hi : p.Inv) (v : Value) (D : HL) (hd : DocM m p v D) (q : Rq) (h : q.op = 7) (aq : Option Addr) (cq : Nat) : Ctr Tryz.prog 91 [v, q.v aq cq] [] D (DocOut (mBegin m p q) D) := by
  obtain ⟨qo, qp, qf, ql, qd⟩ := q
  simp only at h
  subst h
  obtain ⟨a, c, r, at_, ct, rt, ag, cg, rg, rfl, h2, h3, h4, h5, h6, h7, h8⟩ := hd
  have hF := RFindP_spec p hi p.hand (.agg #[.slice a p.fs.length c, .int .i64 p.hand]) D ⟨a, c, r, rfl, h2, h6⟩ qp
  have hR := fun i => RReleaseP_spec p hi (.agg #[.slice a p.fs.length c, .int .i64 p.hand]) D ⟨a, c, r, rfl, h2, h6⟩ i
  have hh := fun i => releaseHand p i
  have hb : mBegin m p ⟨7, qp, qf, ql, qd⟩ = (⟨7, qp, m.to, m.todo, m.got⟩, (mDiscard p qp).1, Re.dn (mDiscard p qp).2) := rfl
  rw [hb]
  unfold mDiscard
  cases hg : mget p.tbl qp with
  | none =>
    rw [hg] at hF
    refine Ctr.enter (n := 210) [.cell 4 36, .cell 5 150] [(0, _), (1, _)] Tryz.func91 rfl rfl rfl (lb rfl) Tryz.call91 ⟨rfl, rfl, trivial⟩ ?_
    intro cx fin fin0
    refine aG ?_
    repeat (first | refine gw ?_ | refine gN fun _ => ?_ | refine gB fun _ => ?_ | fail)
    refine aC (o := hF) (h := ?_) (hro := RoIn.all (fun p hp => by simp [hp]))
    rintro _ _ ⟨rfl, rfl⟩
    refine aG ?_
    repeat (first | refine gx ?_ | refine gN fun _ => ?_ | refine gB fun _ => ?_ | fail)
    refine aBu (ps := [_]) ?_
    repeat (first | refine gx ?_ | refine gN fun _ => ?_ | refine gB fun _ => ?_ | fail)
    refine W.nilChunk ?_
    refine W.order [0, 0, 0] rfl ?_
    refine W.ret (fin _ _ (FinOk.first 1 (aRc (aRc .nil)) rfl ?_))
    exact ⟨[], _, rfl, rfl, DocM.keep (p' := p) (m' := ⟨7, qp, m.to, m.todo, m.got⟩) (H := []) (by assumption) h3 h4 h5 h6 h7 h8⟩
  | some i =>
    obtain ⟨j, hj, rfl, -, -⟩ := hi.tbl qp i hg
    rw [hg] at hF
    have c1 : ¬ ((j : Int) < 0) := by omega
    replace hh := hh j
    replace hR := hR j
    simp only
    generalize p.release j = o at *
    obtain ⟨p', e⟩ := o
    simp only at *
    refine Ctr.enter (n := 210) [.cell 4 36, .cell 5 150] [(0, _), (1, _)] Tryz.func91 rfl rfl rfl (lb rfl) Tryz.call91 ⟨rfl, rfl, trivial⟩ ?_
    intro cx fin fin0
    refine aG ?_
    repeat (first | refine gw ?_ | refine gN fun _ => ?_ | refine gB fun _ => ?_ | fail)
    refine aC (o := hF) (h := ?_) (hro := RoIn.all (fun p hp => by simp [hp]))
    rintro _ _ ⟨rfl, rfl⟩
    refine aG ?_
    repeat (first | refine gh c1 ?_ | refine gN fun _ => ?_ | refine gB fun _ => ?_ | fail)
    refine aC (o := hR) (h := ?_) (hro := RoIn.all (fun p hp => by simp [hp]))
    rintro _ _ ⟨H, v1, rfl, rfl, a2, c2, r2, rfl, hro2, hsub2⟩
    refine aG ?_
    rw [← hh]
    repeat (first | refine gx ?_ | refine gN fun _ => ?_ | refine gB fun _ => ?_ | fail)
    refine aBu (ps := [_, _]) ?_
    repeat (first | refine gx ?_ | refine gN fun _ => ?_ | refine gB fun _ => ?_ | fail)
    refine W.order [1, 1, 1] rfl ?_
    refine W.ret (fin _ _ (FinOk.first 1 (aRc (aRc .nil)) rfl ?_))
    exact ⟨H, _, rfl, rfl, DocM.keep (p' := p') (m' := ⟨7, qp, m.to, m.todo, m.got⟩) (by assumption) h3 h4 h5 hsub2 (fun q hq => by simp [h7 q hq]) h8⟩
theorem RBegin1_spec (m : Mc) (p : Pt) (hi : p.Inv) (v : Value) (D : HL) (hd : DocM m p v D) (q : Rq) (h : q.op = 1) (aq : Option Addr) (cq : Nat) : Ctr Tryz.prog 91 [v, q.v aq cq] [] D (DocOut (mBegin m p q) D) := by
  obtain ⟨qo, qp, qf, ql, qd⟩ := q
  simp only at h
  subst h
  obtain ⟨a, c, r, at_, ct, rt, ag, cg, rg, rfl, h2, h3, h4, h5, h6, h7, h8⟩ := hd
  have hF := RFindP_spec p hi p.hand (.agg #[.slice a p.fs.length c, .int .i64 p.hand]) D ⟨a, c, r, rfl, h2, h6⟩ qp
  have hM := RMiss_spec ⟨1, qp, m.to, m.todo, m.got⟩ p hi (.agg (List.toArray [.slice a p.fs.length c, .int .i64 p.hand, .int .i64 1, .int .i64 qp, .slice at_ m.todo.length ct, .int .i64 m.to, .slice ag m.got.length cg])) D ⟨a, c, r, at_, ct, rt, ag, cg, rg, rfl, h2, h3, h4, h5, h6, h7, h8⟩
  have hDo := RDo0_spec p hi (.agg #[.slice a p.fs.length c, .int .i64 p.hand]) D ⟨a, c, r, rfl, h2, h6⟩ qp
  have hb : mBegin m p ⟨1, qp, qf, ql, qd⟩ = mFetch ⟨1, qp, m.to, m.todo, m.got⟩ p := rfl
  rw [hb]
  unfold mFetch
  simp only
  cases hg : mget p.tbl qp with
  | none =>
    rw [hg] at hF
    rw [if_neg (by simp)]
    generalize mMiss ⟨1, qp, m.to, m.todo, m.got⟩ p = o at *
    refine Ctr.enter (n := 210) [.cell 4 36, .cell 5 150] [(0, _), (1, _)] Tryz.func91 rfl rfl rfl (lb rfl) Tryz.call91 ⟨rfl, rfl, trivial⟩ ?_
    intro cx fin fin0
    refine aG ?_
    repeat (first | refine gw ?_ | refine gN fun _ => ?_ | refine gB fun _ => ?_ | fail)
    refine aC (o := hF) (h := ?_) (hro := RoIn.all (fun p hp => by simp [hp]))
    rintro _ _ ⟨rfl, rfl⟩
    refine aG ?_
    repeat (first | refine gx ?_ | refine gN fun _ => ?_ | refine gB fun _ => ?_ | fail)
    refine aC (o := hM) (h := ?_) (hro := RoIn.all (fun p hp => by simp [hp]))
    rintro _ _ ⟨H, v1, rfl, rfl, a2, c2, r2, at2, ct2, rt2, ag2, cg2, rg2, rfl, k2, k3, k4, k5, k6, k7, k8⟩
    refine aG ?_
    repeat (first | refine gx ?_ | refine gN fun _ => ?_ | refine gB fun _ => ?_ | fail)
    refine W.order [0, 0, 0] rfl ?_
    refine W.ret (fin _ _ (FinOk.first 1 (aRc (aRc .nil)) rfl ?_))
    exact ⟨H, _, rfl, rfl, a2, c2, r2, at2, ct2, rt2, ag2, cg2, rg2, rfl, k2, k3, k4, k5, k6, k7, k8⟩
  | some i =>
    obtain ⟨j, hj, rfl, -, -⟩ := hi.tbl qp i hg
    rw [hg] at hF
    have c1 : ¬ ((j : Int) < 0) := by omega
    have hh := doPageHand p qp Fr.pin
    rw [if_pos (show (some (j : Int)).isSome = true from rfl)]
    generalize p.doPage qp Fr.pin = o at *
    obtain ⟨p', e⟩ := o
    simp only at *
    by_cases he : e = 0
    case' pos =>
      subst he
      refine Ctr.enter (n := 210) [.cell 4 36, .cell 5 150] [(0, _), (1, _)] Tryz.func91 rfl rfl rfl (lb rfl) Tryz.call91 ⟨rfl, rfl, trivial⟩ ?_
      intro cx fin fin0
      refine aG ?_
      repeat (first | refine gw ?_ | refine gN fun _ => ?_ | refine gB fun _ => ?_ | fail)
      refine aC (o := hF) (h := ?_) (hro := RoIn.all (fun p hp => by simp [hp]))
      rintro _ _ ⟨rfl, rfl⟩
      refine aG ?_
      repeat (first | refine gh c1 ?_ | refine gN fun _ => ?_ | refine gB fun _ => ?_ | fail)
      refine aC (o := hDo) (h := ?_) (hro := RoIn.all (fun p hp => by simp [hp]))
      rintro _ _ ⟨H, v1, rfl, rfl, a2, c2, r2, rfl, hro2, hsub2⟩
      refine aG ?_
      rw [← hh]
      repeat (first | refine gx ?_ | refine gN fun _ => ?_ | refine gB fun _ => ?_ | fail)
      refine aBu (ps := [_]) ?_
      refine aBu (ps := [_, _, _]) ?_
      repeat (first | refine gx ?_ | refine gN fun _ => ?_ | refine gB fun _ => ?_ | fail)
    case' neg =>
      refine Ctr.enter (n := 210) [.cell 4 36, .cell 5 150] [(0, _), (1, _)] Tryz.func91 rfl rfl rfl (lb rfl) Tryz.call91 ⟨rfl, rfl, trivial⟩ ?_
      intro cx fin fin0
      refine aG ?_
      repeat (first | refine gw ?_ | refine gN fun _ => ?_ | refine gB fun _ => ?_ | fail)
      refine aC (o := hF) (h := ?_) (hro := RoIn.all (fun p hp => by simp [hp]))
      rintro _ _ ⟨rfl, rfl⟩
      refine aG ?_
      repeat (first | refine gh c1 ?_ | refine gN fun _ => ?_ | refine gB fun _ => ?_ | fail)
      refine aC (o := hDo) (h := ?_) (hro := RoIn.all (fun p hp => by simp [hp]))
      rintro _ _ ⟨H, v1, rfl, rfl, a2, c2, r2, rfl, hro2, hsub2⟩
      refine aG ?_
      rw [← hh]
      repeat (first | refine gh he ?_ | refine gN fun _ => ?_ | refine gB fun _ => ?_ | fail)
      refine aBu (ps := [_, _]) ?_
      repeat (first | refine gx ?_ | refine gN fun _ => ?_ | refine gB fun _ => ?_ | fail)
    all_goals
      refine W.order [1, 1, 1] rfl ?_
      refine W.ret (fin _ _ (FinOk.first 1 (aRc (aRc .nil)) rfl ?_))
      first | rw [if_pos rfl] | rw [if_neg he]
      exact ⟨H, _, rfl, rfl, DocM.keep (p' := p') (m' := ⟨1, qp, m.to, m.todo, m.got⟩) (by assumption) h3 h4 h5 hsub2 (fun q hq => by simp [h7 q hq]) h8⟩
end Go.Proofs.YtfajcpnbhnddbaaGreat
namespace Go.Proofs.YtfajcpnbhnddbaaGreat
open Go Go.Sl Go.IntWalk
set_option maxHeartbeats 8000000
set_option maxRecDepth 20000
theorem _root_.Go.Sl.OpVal.maxL {P : Program} {n : Nat} {R : HL} {cx : Cx} {ρ : Env} {L : List HL} {t1 t2 ty : TypeId} {x y : Operand} {kk k2 : IntKind} {i j : Int} (hx : ev? ρ x = some (.int kk i)) (hy : ev? ρ y = some (.int k2 j)) (h : ¬ i < j) :
    OpVal P n R cx (.call ⟨.builtin .max, #[x, y], #[t1, t2]⟩) ty ρ L (.int kk i) := by
  have := OpVal.max2 (P := P) (n := n) (R := R) (cx := cx) (L := L) (t1 := t1) (t2 := t2) (ty := ty) hx hy
  rwa [if_neg h] at this
def dpgs (fs : List Fr) (g : Fr → Bool) : List Int := (fs.filter fun f => f.dirty && g f).map Fr.page
theorem selD_from (p : Pt) (page : Int) : ∀ (fs : List Fr) (k : Nat), (∀ i (h : i < fs.length), p.at_ ((k + i : Nat) : Int) = fs[i]) → selD p page (dirtyFrom fs k) = dpgs fs fun f => decide (page < 0) || decide (f.page = page)
  | [], _, _ => rfl
  | f :: fs, k, h => by
    have h0 := h 0 (by simp)
    simp only [Nat.add_zero, List.getElem_cons_zero] at h0
    have ih := selD_from p page fs (k + 1) fun i hi => by
      have := h (i + 1) (by simp; omega)
      rw [show k + 1 + i = k + (i + 1) by omega, this]
      rfl
    unfold selD dpgs at ih ⊢
    unfold dirtyFrom
    by_cases hd : f.dirty = true
    · rw [if_pos hd, List.filter_cons, List.filter_cons, h0]
      simp only [hd, Bool.true_and]
      split
      · simp only [List.map_cons, h0, ih]
      · exact ih
    · rw [if_neg hd, List.filter_cons, if_neg (by simp [hd])]
      exact ih
theorem selD_eq (p : Pt) (page : Int) : selD p page p.dirty = dpgs p.fs fun f => decide (page < 0) || decide (f.page = page) :=
  selD_from p page p.fs 0 fun i h => by rw [Nat.zero_add]; exact Pt.at_nat h
theorem filter_one {α : Type} (g : α → Bool) : ∀ (l : List α) (j : Nat) (hj : j < l.length), g l[j] = true → (∀ k (h : k < l.length), g l[k] = true → k = j) → l.filter g = [l[j]]
  | [], _, hj, _, _ => by cases hj
  | x :: l, 0, _, h, hu => by
    simp only [List.getElem_cons_zero] at h ⊢
    rw [List.filter_cons, if_pos h, List.filter_eq_nil_iff.2]
    · intro y hy
      obtain ⟨k, hk, rfl⟩ := List.getElem_of_mem hy
      intro hg
      have := hu (k + 1) (by simp; omega) hg
      omega
  | x :: l, j + 1, hj, h, hu => by
    rw [List.filter_cons, if_neg, filter_one g l j (by simpa using hj) h]
    · rfl
    · intro k hk hg
      have := hu (k + 1) (by simp; omega) hg
      omega
    · intro hg
      have := hu 0 (by simp) hg
      omega
theorem selD_page {p : Pt} (hi : p.Inv) {page : Int} (h0 : 0 ≤ page) : selD p page p.dirty = match mget p.tbl page with
    | some i => if (p.at_ i).dirty = true then [page] else []
    | none => [] := by
  have hn : decide (page < 0) = false := by simp; omega
  rw [selD_eq]
  unfold dpgs
  simp only [hn, Bool.false_or]
  have hu : ∀ k (h : k < p.fs.length), (p.fs[k].dirty && decide (p.fs[k].page = page)) = true → mget p.tbl page = some (k : Int) := by
    intro k hk hg
    simp only [Bool.and_eq_true, decide_eq_true_eq] at hg
    by_cases hus : p.fs[k].used = true
    · rw [← hg.2]; exact hi.inv k hk hus
    · have := hi.emp _ (List.getElem_mem hk) (by simpa using hus)
      rw [this] at hg
      exact absurd hg.1 (by decide)
  cases hg : mget p.tbl page with
  | none =>
    rw [List.filter_eq_nil_iff.2]
    · rfl
    · intro f hf hq
      obtain ⟨k, hk, rfl⟩ := List.getElem_of_mem hf
      rw [hg] at hu
      exact absurd (hu k hk hq) (by simp)
  | some i =>
    obtain ⟨j, hj, rfl, hus, hpg⟩ := hi.tbl page i hg
    simp only
    rw [Pt.at_nat hj]
    by_cases hd : p.fs[j].dirty = true
    · rw [if_pos hd, filter_one _ p.fs j hj (by simp [hd, hpg]) (fun k hk hq => by have := hu k hk hq; rw [hg] at this; simp at this; omega)]
      simp [hpg]
    · rw [if_neg hd, List.filter_eq_nil_iff.2]
      · rfl
      · intro f hf hq
        obtain ⟨k, hk, rfl⟩ := List.getElem_of_mem hf
        have := hu k hk hq
        rw [hg] at this
        simp only [Option.some.injEq, Int.natCast_inj] at this
        subst this
        simp [hd] at hq
theorem dpgs_snoc (fs : List Fr) (f : Fr) (g : Fr → Bool) : dpgs (fs ++ [f]) g = dpgs fs g ++ (if (f.dirty && g f) = true then [f.page] else []) := by
  unfold dpgs
  rw [List.filter_append, List.map_append, List.filter_cons]
  split <;> rfl
theorem dpgs_len (fs : List Fr) (g : Fr → Bool) : (dpgs fs g).length ≤ fs.length := by
  unfold dpgs
  rw [List.length_map]
  exact List.length_filter_le _ _
theorem RBegin6_spec (m : Mc) (p : Pt) (hi : p.Inv) (v : Value) (D : HL) (hd : DocM m p v D) (q : Rq) (h : q.op = 6) (aq : Option Addr) (cq : Nat) : Ctr Tryz.prog 91 [v, q.v aq cq] [] D (DocOut (mBegin m p q) D) := by
  obtain ⟨qo, qp, qf, ql, qd⟩ := q
  simp only at h
  subst h
  obtain ⟨a, c, r, at_, ct, rt, ag, cg, rg, rfl, h2, h3, h4, h5, h6, h7, h8⟩ := hd
  have hF := RFindP_spec p hi p.hand (.agg #[.slice a p.fs.length c, .int .i64 p.hand]) D ⟨a, c, r, rfl, h2, h6⟩ qp
  have h64 := hi.ok.2.2
  have hsd : selD p (-1) p.dirty = dpgs p.fs fun _ => true := by rw [selD_eq]; rfl
  have hb : mBegin m p ⟨6, qp, qf, ql, qd⟩ = (⟨6, qp, m.to, planFlush (selD p (-1) p.dirty), m.got⟩, p, ⟨false, 0, false, [], C6.none⟩) := rfl
  rw [hb, hsd]
  refine Ctr.enter (n := 210) [.cell 4 36, .cell 5 150] [(0, _), (1, _)] Tryz.func91 rfl rfl rfl (lb rfl) Tryz.call91 ⟨rfl, rfl, trivial⟩ ?_
  intro cx fin fin0
  refine aG ?_
  repeat (first | refine gw ?_ | refine gN fun _ => ?_ | refine gB fun _ => ?_ | fail)
  refine aC (o := hF) (h := ?_) (hro := RoIn.all (fun p hp => by simp [hp]))
  rintro _ _ ⟨rfl, rfl⟩
  refine aG ?_
  repeat (first | refine gx ?_ | refine gN fun _ => ?_ | refine gB fun _ => ?_ | fail)
  rename_i b2 b3 b4 b5
  refine W.nilChunk ?_
  refine aLp (fun k ρ1 L1 => ∃ (j : Nat) (ds : List Int) (aa : Option Addr) (nn cc : Nat) (Hl : HL), j ≤ p.fs.length ∧ ds = dpgs (p.fs.take j) (fun _ => true) ∧ nn = ds.length ∧ Own 1 3 (ints ds) aa nn cc Hl ∧ k = p.fs.length - j ∧ ρ1 = [(21, .int .i64 (j : Int)), (20, .slice aa nn cc), (5, .pointer (some ⟨b5, 0, none⟩)), (4, .pointer (some ⟨b4, 0, none⟩)), (2, .pointer (some ⟨b2, 0, none⟩))] ∧ L1 = [Hl, [(b5, .cells #[.bool false, .int .i64 0, .bool false, .string ⟨#[]⟩, .int .u64 0, .int .u64 0, .int .u64 0, .int .u64 0, .int .u64 0, .int .u64 0] 150 (0, 0))], [(b4, .cells #[.slice none 0 0, .int .i64 0, .int .i64 0, .int .i64 0, .slice none 0 0, .int .i64 0, .slice none 0 0] 36 (0, 0))], [(b3, .cells #[.int .i64 6, .int .i64 qp, .int .i64 qf, .int .i64 ql, .slice aq qd.length cq] 48 (0, 0))], [(b2, .cells #[.slice a p.fs.length c, .int .i64 p.hand, .int .i64 6, .int .i64 qp, .slice at_ m.todo.length ct, .int .i64 m.to, .slice ag m.got.length cg] 36 (0, 0))]]) (o := ⟨0, [], none, 0, 0, [], Nat.zero_le _, rfl, rfl, Own.nil _ _, rfl, rfl, rfl⟩) (h := ?_)
  rintro k ρ1 L1 ⟨j, ds, aa, nn, cc, Hl, hj, hds, hnn, hown, rfl, rfl, rfl⟩
  refine aG ?_
  repeat (first | refine gw ?_ | refine gN fun _ => ?_ | refine gB fun _ => ?_ | fail)
  by_cases hlt : j < p.fs.length
  · have hnx : dpgs (p.fs.take (j + 1)) (fun _ => true) = ds ++ (if p.fs[j].dirty = true then [p.fs[j].page] else []) := by
      rw [List.take_add_one, List.getElem?_eq_getElem hlt, Option.toList_some, dpgs_snoc, ← hds]
      simp
    have hlen : ds.length ≤ 64 := by
      have := dpgs_len (p.fs.take j) (fun _ => true)
      rw [← hds, List.length_take] at this
      omega
    obtain ⟨bx, ox, lx, ex, frx, rfl, hmem, _, hld⟩ := doc_at h2 hlt
    have ld : lx[ox + j * 6 + 1]? = some (.bool p.fs[j].dirty) := hld 1 (by decide)
    have lp : lx[ox + j * 6 + 4]? = some (.int .i64 p.fs[j].page) := hld 4 (by decide)
    generalize p.fs[j] = f at hnx ld lp
    refine aT ?_ (hb := by simp; omega)
    repeat (first | refine gw ?_ | refine gN fun _ => ?_ | refine gB fun _ => ?_ | fail)
    refine aV (OpVal.ixSl tab_ok rfl rfl rfl rfl rfl hlt) ?_
    refine aV (OpVal.load tab_ok rfl (show At _ _ bx (.cells lx.toArray ex frx) from .inr (by simp [h6 _ hmem])) ld) ?_
    by_cases hdd : f.dirty = true
    · rw [if_pos hdd] at hnx
      refine aT ?_ (hb := by exact hdd)
      repeat (first | refine gw ?_ | refine gN fun _ => ?_ | refine gB fun _ => ?_ | fail)
      refine aV (OpVal.ixSl tab_ok rfl rfl rfl rfl rfl hlt) ?_
      refine aV (OpVal.load tab_ok rfl (show At _ _ bx (.cells lx.toArray ex frx) from .inr (by simp [h6 _ hmem])) lp) ?_
      refine aSl (ps := [_]) ?_
      intro bq
      refine aG ?_
      refine aAp (hown) ?_
      rintro _ _ ⟨_, _, _, rfl, rfl, ho⟩
      refine aG ?_
      have ei : ints ds ++ [.int .i64 f.page] = ints (ds ++ [f.page]) := by simp [ints]
      rw [ei] at ho
      refine aV (OpVal.add rfl rfl (i64_in _ (by omega))) ?_
      refine aR (o := ⟨p.fs.length - (j + 1), by omega, j + 1, _, _, _, _, _, by omega, hnx.symm, by simp [hnn], ho, rfl, rfl, rfl⟩)
    · rw [if_neg hdd, List.append_nil] at hnx
      refine aF ?_ (hb := by simpa using hdd)
      refine aV (OpVal.add rfl rfl (i64_in _ (by omega))) ?_
      refine aR (o := ⟨p.fs.length - (j + 1), by omega, j + 1, _, _, _, _, _, by omega, hnx.symm, hnn, hown, rfl, rfl, rfl⟩)
  · refine aF ?_ (hb := by simp; omega)
    have hjn : j = p.fs.length := by omega
    subst hjn
    rw [List.take_length] at hds
    have hlen : ds.length ≤ 64 := by
      have := dpgs_len p.fs (fun _ => true)
      rw [← hds] at this
      omega
    subst hnn
    have hP := RFlush_spec ds (by omega) aa cc Hl (Own.roSl hown)
    repeat (first | refine gx ?_ | refine gN fun _ => ?_ | refine gB fun _ => ?_ | fail)
    refine aC (o := hP) (h := ?_) (hro := RoIn.own 0 rfl)
    rintro _ _ ⟨an, cn, Hn, rfl, rfl, hn⟩
    refine aG ?_
    repeat (first | refine gx ?_ | refine gN fun _ => ?_ | refine gB fun _ => ?_ | fail)
    refine aBu (ps := []) ?_
    repeat (first | refine gx ?_ | refine gN fun _ => ?_ | refine gB fun _ => ?_ | fail)
    refine W.order [0, 1, 1] rfl ?_
    refine W.ret (fin _ _ (FinOk.first 1 (aRc (aRc .nil)) rfl ?_))
    rw [← hds]
    exact ⟨Hn, _, rfl, rfl, a, c, r, an, cn, _, ag, cg, rg, rfl, h2, hn.roSl, h4, hn.cap_le, fun q hq => List.mem_append_right _ (h6 q hq), fun q hq => List.mem_append_left _ hq, fun q hq => List.mem_append_right _ (h8 q hq)⟩
theorem RBegin5_spec (m : Mc) (p : Pt) (hi : p.Inv) (v : Value) (D : HL) (hd : DocM m p v D) (q : Rq) (h : q.op = 5) (h0 : 0 ≤ q.page) (aq : Option Addr) (cq : Nat) : Ctr Tryz.prog 91 [v, q.v aq cq] [] D (DocOut (mBegin m p q) D) := by
  obtain ⟨qo, qp, qf, ql, qd⟩ := q
  simp only at h h0
  subst h
  obtain ⟨a, c, r, at_, ct, rt, ag, cg, rg, rfl, h2, h3, h4, h5, h6, h7, h8⟩ := hd
  have hF := RFindP_spec p hi p.hand (.agg #[.slice a p.fs.length c, .int .i64 p.hand]) D ⟨a, c, r, rfl, h2, h6⟩ qp
  have hsd := selD_page hi h0
  have hb : mBegin m p ⟨5, qp, qf, ql, qd⟩ = (⟨5, qp, m.to, planFlush (selD p qp p.dirty), m.got⟩, p, ⟨false, 0, false, [], C6.none⟩) := rfl
  rw [hb, hsd]
  have hP := fun (ds : List Int) (hl : ds.length ≤ 1000) (a0 : Option Addr) (cap0 : Nat) (ro : HL) (hro : RoSl 1 (ints ds) a0 ds.length ro) => RFlush_spec ds hl a0 cap0 ro hro
  cases hg : mget p.tbl qp with
  | none =>
    rw [hg] at hF
    refine Ctr.enter (n := 210) [.cell 4 36, .cell 5 150] [(0, _), (1, _)] Tryz.func91 rfl rfl rfl (lb rfl) Tryz.call91 ⟨rfl, rfl, trivial⟩ ?_
    intro cx fin fin0
    refine aG ?_
    repeat (first | refine gw ?_ | refine gN fun _ => ?_ | refine gB fun _ => ?_ | fail)
    refine aC (o := hF) (h := ?_) (hro := RoIn.all (fun p hp => by simp [hp]))
    rintro _ _ ⟨rfl, rfl⟩
    refine aG ?_
    repeat (first | refine gx ?_ | refine gN fun _ => ?_ | refine gB fun _ => ?_ | fail)
    refine aC (o := hP [] (by simp) none 0 [] ⟨rfl, .inl ⟨rfl, rfl⟩⟩) (h := ?_) (hro := RoIn.nil)
    rintro _ _ ⟨an, cn, Hn, rfl, rfl, hn⟩
    refine aG ?_
    repeat (first | refine gx ?_ | refine gN fun _ => ?_ | refine gB fun _ => ?_ | fail)
    refine aBu (ps := []) ?_
    repeat (first | refine gx ?_ | refine gN fun _ => ?_ | refine gB fun _ => ?_ | fail)
    refine W.order [0, 0, 0] rfl ?_
    refine W.ret (fin _ _ (FinOk.first 1 (aRc (aRc .nil)) rfl ?_))
    exact ⟨Hn, _, rfl, rfl, a, c, r, an, cn, _, ag, cg, rg, rfl, h2, hn.roSl, h4, hn.cap_le, fun q hq => List.mem_append_right _ (h6 q hq), fun q hq => List.mem_append_left _ hq, fun q hq => List.mem_append_right _ (h8 q hq)⟩
  | some i =>
    obtain ⟨j, hj, rfl, -, -⟩ := hi.tbl qp i hg
    rw [hg] at hF
    simp only
    rw [Pt.at_nat hj]
    have c1 : (0 : Int) ≤ (j : Int) := by omega
    obtain ⟨bx, ox, lx, ex, frx, rfl, hmem, _, hld⟩ := doc_at h2 hj
    have ld : lx[ox + j * 6 + 1]? = some (.bool p.fs[j].dirty) := hld 1 (by decide)
    generalize p.fs[j] = f at *
    obtain ⟨fu, fd, fr, fn, fp, fb⟩ := f
    simp only at ld ⊢
    cases fd with
    | false =>
      rw [if_neg (by simp)]
      refine Ctr.enter (n := 210) [.cell 4 36, .cell 5 150] [(0, _), (1, _)] Tryz.func91 rfl rfl rfl (lb rfl) Tryz.call91 ⟨rfl, rfl, trivial⟩ ?_
      intro cx fin fin0
      refine aG ?_
      repeat (first | refine gw ?_ | refine gN fun _ => ?_ | refine gB fun _ => ?_ | fail)
      refine aC (o := hF) (h := ?_) (hro := RoIn.all (fun p hp => by simp [hp]))
      rintro _ _ ⟨rfl, rfl⟩
      refine aG ?_
      repeat (first | refine gh c1 ?_ | refine gN fun _ => ?_ | refine gB fun _ => ?_ | fail)
      refine aV (OpVal.maxL (i := (j : Int)) rfl rfl (by omega)) ?_
      repeat (first | refine gx ?_ | refine gN fun _ => ?_ | refine gB fun _ => ?_ | fail)
      refine aV (OpVal.ixSl tab_ok rfl rfl rfl rfl rfl hj) ?_
      repeat (first | refine gx ?_ | refine gN fun _ => ?_ | refine gB fun _ => ?_ | fail)
      refine aV (OpVal.load tab_ok rfl (show At _ _ bx (.cells lx.toArray ex frx) from .inr (by simp [h6 _ hmem])) ld) ?_
      repeat (first | refine gh c1 ?_ | refine gN fun _ => ?_ | refine gB fun _ => ?_ | fail)
      refine aC (o := hP [] (by simp) none 0 [] ⟨rfl, .inl ⟨rfl, rfl⟩⟩) (h := ?_) (hro := RoIn.nil)
      rintro _ _ ⟨an, cn, Hn, rfl, rfl, hn⟩
      refine aG ?_
      repeat (first | refine gx ?_ | refine gN fun _ => ?_ | refine gB fun _ => ?_ | fail)
      refine aBu (ps := []) ?_
      repeat (first | refine gx ?_ | refine gN fun _ => ?_ | refine gB fun _ => ?_ | fail)
      refine W.order [0, 0, 0] rfl ?_
      refine W.ret (fin _ _ (FinOk.first 1 (aRc (aRc .nil)) rfl ?_))
      exact ⟨Hn, _, rfl, rfl, _, c, r, an, cn, _, ag, cg, rg, rfl, h2, hn.roSl, h4, hn.cap_le, fun q hq => List.mem_append_right _ (h6 q hq), fun q hq => List.mem_append_left _ hq, fun q hq => List.mem_append_right _ (h8 q hq)⟩
    | true =>
      rw [if_pos rfl]
      refine Ctr.enter (n := 210) [.cell 4 36, .cell 5 150] [(0, _), (1, _)] Tryz.func91 rfl rfl rfl (lb rfl) Tryz.call91 ⟨rfl, rfl, trivial⟩ ?_
      intro cx fin fin0
      refine aG ?_
      repeat (first | refine gw ?_ | refine gN fun _ => ?_ | refine gB fun _ => ?_ | fail)
      refine aC (o := hF) (h := ?_) (hro := RoIn.all (fun p hp => by simp [hp]))
      rintro _ _ ⟨rfl, rfl⟩
      refine aG ?_
      repeat (first | refine gh c1 ?_ | refine gN fun _ => ?_ | refine gB fun _ => ?_ | fail)
      refine aV (OpVal.maxL (i := (j : Int)) rfl rfl (by omega)) ?_
      repeat (first | refine gx ?_ | refine gN fun _ => ?_ | refine gB fun _ => ?_ | fail)
      refine aV (OpVal.ixSl tab_ok rfl rfl rfl rfl rfl hj) ?_
      repeat (first | refine gx ?_ | refine gN fun _ => ?_ | refine gB fun _ => ?_ | fail)
      refine aV (OpVal.load tab_ok rfl (show At _ _ bx (.cells lx.toArray ex frx) from .inr (by simp [h6 _ hmem])) ld) ?_
      repeat (first | refine gh c1 ?_ | refine gN fun _ => ?_ | refine gB fun _ => ?_ | fail)
      refine aSl (ps := [_]) ?_
      intro bq
      refine aG ?_
      refine W.nilChunk ?_
      have hown : Own 1 3 (ints []) none 0 0 [] := Own.nil _ _
      refine aAp (hown) ?_
      rintro _ _ ⟨_, _, _, rfl, rfl, ho⟩
      refine aG ?_
      have ei : ints [] ++ [.int .i64 qp] = ints [qp] := rfl
      rw [ei] at ho
      repeat (first | refine gx ?_ | refine gN fun _ => ?_ | refine gB fun _ => ?_ | fail)
      refine aC (o := hP [qp] (by simp) _ _ _ (Own.roSl ho)) (h := ?_) (hro := RoIn.own 0 rfl)
      rintro _ _ ⟨an, cn, Hn, rfl, rfl, hn⟩
      refine aG ?_
      repeat (first | refine gx ?_ | refine gN fun _ => ?_ | refine gB fun _ => ?_ | fail)
      refine aBu (ps := []) ?_
      repeat (first | refine gx ?_ | refine gN fun _ => ?_ | refine gB fun _ => ?_ | fail)
      refine W.order [0, 2, 2] rfl ?_
      refine W.ret (fin _ _ (FinOk.first 1 (aRc (aRc .nil)) rfl ?_))
      exact ⟨Hn, _, rfl, rfl, _, c, r, an, cn, _, ag, cg, rg, rfl, h2, hn.roSl, h4, hn.cap_le, fun q hq => List.mem_append_right _ (h6 q hq), fun q hq => List.mem_append_left _ hq, fun q hq => List.mem_append_right _ (h8 q hq)⟩
end Go.Proofs.YtfajcpnbhnddbaaGreat
namespace Go.Proofs.YtfajcpnbhnddbaaGreat
open Go Go.Sl Go.IntWalk
set_option maxHeartbeats 8000000
set_option maxRecDepth 20000
theorem RBegin_spec (m : Mc) (p : Pt) (hi : p.Inv) (v : Value) (D : HL) (hd : DocM m p v D) (q : Rq) (h1 : 1 ≤ q.op) (h8 : q.op ≤ 8) (ho : i64s q.off) (hl : i64s q.len) (h0 : q.op = 5 → 0 ≤ q.page) (aq : Option Addr) (cq : Nat) (hqd : q.data.length ≤ 1000000) (rq : HL) (hrq : RoSl 1 (u8s q.data) aq q.data.length rq) :
    Ctr Tryz.prog 91 [v, q.v aq cq] [] (D ++ rq) (DocOut (mBegin m p q) D) := by
  have hs : ∀ x ∈ D, x ∈ D ++ rq := fun x hx => List.mem_append_left _ hx
  have hop : q.op = 1 ∨ q.op = 2 ∨ q.op = 3 ∨ q.op = 4 ∨ q.op = 5 ∨ q.op = 6 ∨ q.op = 7 ∨ q.op = 8 := by omega
  rcases hop with h | h | h | h | h | h | h | h
  · exact (RBegin1_spec m p hi v D hd q h aq cq).ro hs
  · exact (RBegin2_spec m p hi v D hd q h ho hl aq cq).ro hs
  · exact RBegin3_spec m p hi v D hd q h ho aq cq hqd rq hrq
  · exact (RBegin4_spec m p hi v D hd q h aq cq).ro hs
  · exact (RBegin5_spec m p hi v D hd q h (h0 h) aq cq).ro hs
  · exact (RBegin6_spec m p hi v D hd q h aq cq).ro hs
  · exact (RBegin7_spec m p hi v D hd q h aq cq).ro hs
  · exact (RBegin8_spec m p hi v D hd q h aq cq).ro hs
theorem bstr_extract (bs : List Int) (l h : Nat) : (bstr bs).extract l h = bstr ((bs.drop l).take (h - l)) := by
  apply ByteArray.ext
  rw [ByteArray.data_extract]
  simp [bstr, List.extract_eq_take_drop, List.map_take, List.map_drop]
theorem _root_.Go.Sl.OpVal.strSl {P : Program} {T : Tab} (hT : TabOk P T) {n : Nat} {R : HL} {cx : Cx} {ρ : Env} {L : List HL} {t ty : TypeId} {x lo hi : Operand} {bs : List Int} {k1 k2 : IntKind} {l h : Nat}
    (hx : ev? ρ x = some (.string (bstr bs))) (ht : hasNat T.strs t = true) (hl : ev? ρ lo = some (.int k1 (l : Int))) (hh : ev? ρ hi = some (.int k2 (h : Int))) (h1 : l ≤ h) (h2 : h ≤ bs.length) :
    OpVal P n R cx (.slice t x (some lo) (some hi) none) ty ρ L (.string (bstr ((bs.drop l).take (h - l)))) := by
  refine ⟨fun oo a w ho hty hf hs => ?_⟩
  have hu := hT.strs _ (hasNat_mem ht)
  have h3 : h ≤ (bstr bs).size := by rw [bstr_size]; exact h2
  unfold execOp; rw [ho]
  simp [Instr.sliceAt, Instr.slice, Instr.sliceBounds, Instr.sliceBound, underlying, hu, hf.ev hx, hf.ev hl, hf.ev hh, asIntOf, h1, h3, bstr_extract]
theorem RData_spec (m : Mc) (p : Pt) (hi : p.Inv) (v : Value) (D : HL) (hd : DocM m p v D) (hk : m.io.1 = 2 → m.io.2.2 = 0 ∨ m.io.2.2 = 1) : Ctr Tryz.prog 39 [v] [] D (fun v' L' => v' = .string (bstr (m.data p)) ∧ L' = []) := by
  obtain ⟨a, c, r, at_, ct, rt, ag, cg, rg, rfl, h2, h3, h4, h5, h6, h7, h8⟩ := hd
  have hF := RFindP_spec p hi p.hand (.agg #[.slice a p.fs.length c, .int .i64 p.hand]) D ⟨a, c, r, rfl, h2, h6⟩ m.io.2.1
  have hdat : m.data p = m.data p := rfl
  conv at hdat => rhs; unfold Mc.data
  generalize m.data p = dat at *
  obtain ⟨mo, mpg, mto, todo, mgot⟩ := m
  simp only [Mc.io] at *
  cases todo with
  | nil =>
    replace hdat : dat = [] := by simpa using hdat
    subst hdat
    refine Ctr.enter (n := 40) [.tmp 2] [(0, _)] Tryz.func39 rfl rfl rfl (lb rfl) Tryz.call39 ⟨rfl, trivial⟩ ?_
    intro cx fin fin0
    refine aG ?_
    repeat (first | refine gx ?_ | refine gN fun _ => ?_ | refine gB fun _ => ?_ | fail)
    refine W.ret (fin _ _ (FinOk.mk' ([]) (.tmp rfl .nil) (by repeat (first | exact Sel.nil | (apply Sel.cons; (repeat (first | exact Pick.here | apply Pick.there))))) rfl ?_))
    exact ⟨rfl, rfl⟩
  | cons x rest =>
    obtain ⟨xk, xp, xq⟩ := x
    simp only [List.headD_cons] at *
    rw [if_neg (by simp)] at hdat
    have hn : 0 < ((xk, xp, xq) :: rest).length := by simp
    have hnz : ¬ ((((xk, xp, xq) :: rest).length : Nat) : Int) = 0 := by simp; omega
    obtain ⟨by_, oy, ly, ey, fry, rfl, rfl, hs, -⟩ := RoSl.at (f := io3) (m := 3) (fun _ => rfl) h3 hn
    have hat : ∀ L, At D L by_ (.cells ly.toArray ey fry) := fun L => .inr (h7 _ (by simp))
    by_cases hk2 : xk = 2
    case' neg =>
      replace hdat : dat = [] := by simpa [hk2] using hdat
      subst hdat
      refine Ctr.enter (n := 40) [.tmp 2] [(0, _)] Tryz.func39 rfl rfl rfl (lb rfl) Tryz.call39 ⟨rfl, trivial⟩ ?_
      intro cx fin fin0
      refine aG ?_
      repeat (first | refine gh hnz ?_ | refine gN fun _ => ?_ | refine gB fun _ => ?_ | fail)
      refine aV (OpVal.ixSl tab_ok rfl rfl rfl rfl rfl hn) ?_
      refine aV (OpVal.loadN ty_99.1 ty_99.2 rfl (hat _) hs) ?_
      repeat (first | refine gx ?_ | refine gN fun _ => ?_ | refine gB fun _ => ?_ | fail)
      refine aC (o := hF) (h := ?_) (hro := RoIn.all (fun p hp => by simp [hp]))
      rintro _ _ ⟨rfl, rfl⟩
      refine aG ?_
      repeat (first | refine gh hk2 ?_ | refine gN fun _ => ?_ | refine gB fun _ => ?_ | fail)
      refine W.ret (fin _ _ (FinOk.mk' ([]) (.tmp rfl .nil) (by repeat (first | exact Sel.nil | (apply Sel.cons; (repeat (first | exact Pick.here | apply Pick.there))))) rfl ?_))
      exact ⟨rfl, rfl⟩
    subst hk2
    simp only [↓reduceIte] at hdat
    cases hg : mget p.tbl xp with
    | none =>
      rw [hg] at hdat hF
      subst hdat
      refine Ctr.enter (n := 40) [.tmp 2] [(0, _)] Tryz.func39 rfl rfl rfl (lb rfl) Tryz.call39 ⟨rfl, trivial⟩ ?_
      intro cx fin fin0
      refine aG ?_
      repeat (first | refine gh hnz ?_ | refine gN fun _ => ?_ | refine gB fun _ => ?_ | fail)
      refine aV (OpVal.ixSl tab_ok rfl rfl rfl rfl rfl hn) ?_
      refine aV (OpVal.loadN ty_99.1 ty_99.2 rfl (hat _) hs) ?_
      repeat (first | refine gx ?_ | refine gN fun _ => ?_ | refine gB fun _ => ?_ | fail)
      refine aC (o := hF) (h := ?_) (hro := RoIn.all (fun p hp => by simp [hp]))
      rintro _ _ ⟨rfl, rfl⟩
      refine aG ?_
      repeat (first | refine gx ?_ | refine gN fun _ => ?_ | refine gB fun _ => ?_ | fail)
      refine W.ret (fin _ _ (FinOk.mk' ([]) (.tmp rfl .nil) (by repeat (first | exact Sel.nil | (apply Sel.cons; (repeat (first | exact Pick.here | apply Pick.there))))) rfl ?_))
      exact ⟨rfl, rfl⟩
    | some i =>
      obtain ⟨j, hj, rfl, -, -⟩ := hi.tbl xp i hg
      rw [hg] at hdat hF
      simp only [Pt.at_nat hj] at hdat
      have hfo : p.fs[j].b.length = 32 := hi.ok.1 _ (List.getElem_mem hj)
      have c1 : ¬ ((j : Int) < 0) := by omega
      obtain ⟨bx, ox, lx, ex, frx, rfl, hmem, _, hld⟩ := doc_at h2 hj
      have hat2 : ∀ L, At D L bx (.cells lx.toArray ex frx) := fun L => .inr (h6 _ hmem)
      have lb5 : lx[ox + j * 6 + 5]? = some (.string (bstr p.fs[j].b)) := hld 5 (by decide)
      generalize p.fs[j].b = pg at *
      subst hdat
      refine Ctr.enter (n := 40) [.tmp 2] [(0, _)] Tryz.func39 rfl rfl rfl (lb rfl) Tryz.call39 ⟨rfl, trivial⟩ ?_
      intro cx fin fin0
      refine aG ?_
      repeat (first | refine gh hnz ?_ | refine gN fun _ => ?_ | refine gB fun _ => ?_ | fail)
      refine aV (OpVal.ixSl tab_ok rfl rfl rfl rfl rfl hn) ?_
      refine aV (OpVal.loadN ty_99.1 ty_99.2 rfl (hat _) hs) ?_
      repeat (first | refine gx ?_ | refine gN fun _ => ?_ | refine gB fun _ => ?_ | fail)
      refine aC (o := hF) (h := ?_) (hro := RoIn.all (fun p hp => by simp [hp]))
      rintro _ _ ⟨rfl, rfl⟩
      refine aG ?_
      repeat (first | refine gh c1 ?_ | refine gN fun _ => ?_ | refine gB fun _ => ?_ | fail)
      refine W.draw follows (by decide +kernel) (zG ?_)
      repeat (first | refine zL ?_ | fail)
      refine zV (OpVal.ixSl tab_ok rfl rfl rfl rfl rfl hj) ?_
      repeat (first | refine zL ?_ | fail)
      refine zV (OpVal.load tab_ok rfl (hat2 _) lb5) ?_
      repeat (first | refine zL ?_ | fail)
      rcases hk rfl with rfl | rfl
      case' inl =>
        refine zV (OpVal.mul (i := 16) (j := 0) (r := 0) rfl rfl (by decide)) ?_
        repeat (first | refine zL ?_ | fail)
        refine zV (OpVal.mul (i := 16) (j := 0) (r := 0) rfl rfl (by decide)) ?_
        refine zV (OpVal.add (r := 16) rfl rfl (by decide)) ?_
        refine zV (OpVal.strSl (bs := pg) (l := 0) (h := 16) tab_ok rfl rfl rfl rfl (by decide) (by omega)) ?_
      case' inr =>
        refine zV (OpVal.mul (i := 16) (j := 1) (r := 16) rfl rfl (by decide)) ?_
        repeat (first | refine zL ?_ | fail)
        refine zV (OpVal.mul (i := 16) (j := 1) (r := 16) rfl rfl (by decide)) ?_
        refine zV (OpVal.add (r := 32) rfl rfl (by decide)) ?_
        refine zV (OpVal.strSl (bs := pg) (l := 16) (h := 32) tab_ok rfl rfl rfl rfl (by decide) (by omega)) ?_
      all_goals
        repeat (first | refine zL ?_ | fail)
        refine WZ.nil (aG ?_)
        refine W.ret (fin _ _ (FinOk.mk' ([]) (.tmp rfl .nil) (by repeat (first | exact Sel.nil | (apply Sel.cons; (repeat (first | exact Pick.here | apply Pick.there))))) rfl ?_))
        refine ⟨?_, rfl⟩
      · unfold sect
        rw [if_neg (by decide), List.take_of_length_le (by simp; omega)]
        rfl
      · rfl
end Go.Proofs.YtfajcpnbhnddbaaGreat
namespace Go.Proofs.YtfajcpnbhnddbaaGreat
open Go Go.Sl Go.IntWalk
set_option maxHeartbeats 8000000
set_option maxRecDepth 20000
theorem cleanHand (p : Pt) (i : Int) : (p.clean i).1.hand = p.hand := by unfold Pt.clean; split <;> rfl
theorem loadHand (p : Pt) (i page : Int) (bs : List Int) : (p.load i page bs).1.hand = p.hand := by
  unfold Pt.load
  split
  · split <;> rfl
  · rfl
theorem REnd_err (m : Mc) (p : Pt) (v : Value) (D : HL) (hd : DocM m p v D) (e : Int) (he : e ≠ 0) (bs : List Int) (ab : Option Addr) (cb : Nat) : Ctr Tryz.prog 72 [v, .int .i64 e, .slice ab bs.length cb] [] D (DocOut (mEnd m p e bs) D) := by
  obtain ⟨a, c, r, at_, ct, rt, ag, cg, rg, rfl, h2, h3, h4, h5, h6, h7, h8⟩ := hd
  have hb : mEnd m p e bs = (Mc.idle, p, ⟨true, 9, false, [], ⟨0, 0, 0, 0, 0, 1⟩⟩) := by unfold mEnd; rw [if_pos he]
  rw [hb]
  refine Ctr.enter (n := 114) [.cell 6 36, .cell 7 150] [(0, _), (1, _), (2, _)] Tryz.func72 rfl rfl rfl (lb rfl) Tryz.call72 ⟨rfl, rfl, rfl, trivial⟩ ?_
  intro cx fin fin0
  refine aG ?_
  repeat (first | refine gh he ?_ | refine gN fun _ => ?_ | refine gB fun _ => ?_ | fail)
  refine aBu (ps := [_]) ?_
  refine aBu (ps := [_]) ?_
  refine aBu (ps := [_, _, _]) ?_
  repeat (first | refine gx ?_ | refine gN fun _ => ?_ | refine gB fun _ => ?_ | fail)
  refine W.nilChunk ?_
  refine W.order [0, 0, 0] rfl ?_
  refine W.ret (fin _ _ (FinOk.first 1 (aRc (aRc .nil)) rfl ?_))
  exact ⟨[], _, rfl, rfl, a, c, r, none, 0, [], none, 0, [], rfl, h2, ⟨rfl, .inl ⟨rfl, rfl⟩⟩, ⟨rfl, .inl ⟨rfl, rfl⟩⟩, Nat.le_refl _, h6, (fun _ h => by cases h), (fun _ h => by cases h)⟩
theorem REnd_ok (m : Mc) (hne : m.todo ≠ []) (p : Pt) (hi : p.Inv) (v : Value) (D : HL) (hd : DocM m p v D) (bs : List Int) (ab : Option Addr) (cb : Nat) (rb : HL) (hrb : RoSl 1 (u8s bs) ab bs.length rb) (hlen : m.got.length + bs.length ≤ 100000)
    (hst : m.io.1 = 2 ∧ m.io.2.2 = 1 → ∃ j : Nat, j < p.fs.length ∧ mget p.tbl m.io.2.1 = some (j : Int) ∧ (m.op = 1 → (p.at_ j).pins = 0)) (hsi : (mStep m p bs).2.1.Inv) (hli : ((mStep m p bs).2.1.load m.to m.page (mStep m p bs).1.got).1.Inv) :
    Ctr Tryz.prog 72 [v, .int .i64 0, .slice ab bs.length cb] [] (D ++ rb) (DocOut (mEnd m p 0 bs) D) := by
  obtain ⟨a, c, r, at_, ct, rt, ag, cg, rg, rfl, h2, h3, h4, h5, h6, h7, h8⟩ := hd
  have hF := RFindP_spec p hi p.hand (.agg #[.slice a p.fs.length c, .int .i64 p.hand]) D ⟨a, c, r, rfl, h2, h6⟩ m.io.2.1
  have hC := fun i => RCleanP_spec p hi (.agg #[.slice a p.fs.length c, .int .i64 p.hand]) D ⟨a, c, r, rfl, h2, h6⟩ i
  have hE := REmpty_spec
  have h64 := hi.ok.2.2
  have hout : mEnd m p 0 bs = mEnd m p 0 bs := rfl
  conv at hout => rhs; unfold mEnd
  rw [if_neg (by simp)] at hout
  generalize mEnd m p 0 bs = out at *
  obtain ⟨mo, mpg, mto, todo, mgot⟩ := m
  simp only [Mc.io] at *
  cases todo with
  | nil => exact absurd rfl hne
  | cons x rest =>
    obtain ⟨xk, xp, xq⟩ := x
    simp only [List.headD_cons] at *
    have hn : 0 < ((xk, xp, xq) :: rest).length := by simp
    have hl1 : 1 ≤ ((xk, xp, xq) :: rest).length := by simp
    obtain ⟨by_, oy, ly, ey, fry, rfl, rfl, hs, -⟩ := RoSl.at (f := io3) (m := 3) (fun _ => rfl) h3 hn
    have hat : ∀ L, At (D ++ rb) L by_ (.cells ly.toArray ey fry) := fun L => .inr (List.mem_append_left _ (h7 _ (by simp)))
    have hro2 : RoSl 3 (ios rest) ((some ⟨by_, oy, none⟩ : Option Addr).map fun ad => if ct = 1 then ad else ad.add (1 * 3)) rest.length [(by_, .cells ly.toArray ey fry)] := by
      rcases RoSl.drop (f := io3) (cap := ct) (fun _ => rfl) h3 1 hl1 with h | h
      · exact h
      · omega
    have hct2 : rest.length ≤ ct - 1 := by simp at h5; omega
    refine Ctr.enter (n := 114) [.cell 6 36, .cell 7 150] [(0, _), (1, _), (2, _)] Tryz.func72 rfl rfl rfl (lb rfl) Tryz.call72 ⟨rfl, rfl, rfl, trivial⟩ ?_
    intro cx fin fin0
    refine aG ?_
    repeat (first | refine gx ?_ | refine gN fun _ => ?_ | refine gB fun _ => ?_ | fail)
    refine aV (OpVal.ixSl tab_ok rfl rfl rfl rfl rfl hn) ?_
    refine aV (OpVal.loadN ty_99.1 ty_99.2 rfl (hat _) hs) ?_
    repeat (first | refine gx ?_ | refine gN fun _ => ?_ | refine gB fun _ => ?_ | fail)
    refine aV (OpVal.back tab_ok rfl rfl rfl rfl rfl hl1 h5) ?_
    repeat (first | refine gx ?_ | refine gN fun _ => ?_ | refine gB fun _ => ?_ | fail)
    have hms : mStep ⟨mo, mpg, mto, (xk, xp, xq) :: rest, mgot⟩ p bs = if xk = 2 ∧ xq = 1 then (⟨mo, mpg, mto, rest, mgot⟩, mStored ⟨mo, mpg, mto, rest, mgot⟩ p xp) else if xk = 1 then (⟨mo, mpg, mto, rest, mgot ++ bs⟩, p, C6.none) else (⟨mo, mpg, mto, rest, mgot⟩, p, C6.none) := rfl
    have hgl : mgot.length + bs.length ≤ 100000 := hlen
    generalize mStep ⟨mo, mpg, mto, (xk, xp, xq) :: rest, mgot⟩ p bs = st at *
    rcases Classical.em (xk = 2 ∧ xq = 1) with hA | hA
    case' inl =>
      rw [if_pos hA] at hms
      obtain ⟨j, hj, hg, hpin⟩ := hst hA
      obtain ⟨rfl, rfl⟩ := hA
      rw [hg] at hF
      have hh := cleanHand p j
      have hCj := hC j
      repeat (first | refine gx ?_ | refine gN fun _ => ?_ | refine gB fun _ => ?_ | fail)
      refine aC (o := hF) (h := ?_) (hro := RoIn.all (fun p hp => by simp [hp]))
      rintro _ _ ⟨rfl, rfl⟩
      refine aG ?_
      repeat (first | refine gx ?_ | refine gN fun _ => ?_ | refine gB fun _ => ?_ | fail)
      refine aC (o := hCj) (h := ?_) (hro := RoIn.all (fun p hp => by simp [hp]))
      rintro _ _ ⟨H, v1, rfl, rfl, a2, c2, r2, rfl, hro2', hsub2⟩
      refine aG ?_
      repeat (first | refine gx ?_ | refine gN fun _ => ?_ | refine gB fun _ => ?_ | fail)
      have hci := Pt.clean_inv hi (j : Int)
      by_cases ho : mo = 1
      case' pos =>
        have hjc : j < (p.clean (j : Int)).1.fs.length := by
          unfold Pt.clean
          rw [if_neg (by unfold inFr; omega)]
          simpa [Pt.setF] using hj
        have hpc : ((p.clean (j : Int)).1.at_ (j : Int)).pins = 0 := by
          have h0 := hpin ho
          unfold Pt.clean
          rw [if_neg (by unfold inFr; omega)]
          simp only [Int.toNat_natCast]
          rw [Pt.at_nat (by simpa [Pt.setF] using hj)]
          simp only [Pt.setF, List.getElem_set_self]
          exact h0
        have hrel := release_fs hjc hpc
        have hW := RWith_spec (p.clean (j : Int)).1.fs hci.ok.2.1 hci.ok.2.2 p.hand _ (H ++ D) ⟨_, c2, _, rfl, hro2', hsub2⟩ j hjc Fr.zero
        have hms2 : mStored ⟨mo, mpg, mto, rest, mgot⟩ p xp = (((p.clean (j : Int)).1.release (j : Int)).1, ⟨0, 0, 1, 0, 0, 0⟩) := by unfold mStored; rw [if_pos ho, hg]; rfl
        rw [hms2] at hms
        repeat (first | refine gh ho ?_ | refine gN fun _ => ?_ | refine gB fun _ => ?_ | fail)
        refine W.drawH tab_ok 7 [.b false, .b true, .b false, .b false, .b true, .b false, .b true] [6] follows (by decide +kernel) (by decide +kernel) rfl (by decide) rfl ?_
        intro _
        refine dG ?_
        repeat (first | refine dL ?_ | refine dS ?_ | (refine dN ?_; intro _; refine dG ?_) | (refine dB ?_; intro _; refine dG ?_) | fail)
        refine dLA ?_
        refine dQ (o := hE) (h := ?_)
        refine dC (o := hW) (h := ?_) (hro := RoIn.all (fun q hq => (List.mem_append.1 hq).elim (fun h => by simp [h]) (fun h => by simp [h])))
        rintro _ _ ⟨H2, rfl, a3, c3, r3, rfl, hro3, hsub3⟩
        refine dG ?_
        repeat (first | refine dL ?_ | refine dS ?_ | (refine dN ?_; intro _; refine dG ?_) | (refine dB ?_; intro _; refine dG ?_) | fail)
        refine WD.nil (W.dropNil (aG ?_))
        repeat (first | refine gx ?_ | refine gN fun _ => ?_ | refine gB fun _ => ?_ | fail)
        refine W.nilChunk ?_
        refine W.order [1, 0, 3, 4, 4, 0] rfl ?_
        obtain ⟨p1, hp1⟩ : ∃ p1, p1 = ((p.clean (j : Int)).1.release (j : Int)).1 := ⟨_, rfl⟩
        rw [← hp1] at hms hrel
        obtain ⟨c1, hc1⟩ : ∃ c1, c1 = c3 := ⟨_, rfl⟩
        have hle1 : ((p.clean (j : Int)).1.fs.set j Fr.zero).length = p1.fs.length := by rw [hrel.1]
        have hha1 : p.hand = p1.hand := (hrel.2.trans hh).symm
        rw [← hrel.1] at hro3
        have hro1 : RoSl 6 (dflat p1.fs) a3 p1.fs.length r3 := hro3
        have hsub1 : ∀ q ∈ r3, q ∈ H2 ++ D := fun q hq => List.mem_append_left _ (hsub3 q hq)
        rw [hle1, hha1, ← hc1]
      case' neg =>
        have hms2 : mStored ⟨mo, mpg, mto, rest, mgot⟩ p xp = ((p.clean (j : Int)).1, C6.none) := by unfold mStored; rw [if_neg ho, hg]; rfl
        rw [hms2] at hms
        repeat (first | refine gh ho ?_ | refine gN fun _ => ?_ | refine gB fun _ => ?_ | fail)
        refine W.nilChunk ?_
        refine W.order [2, 0, 1, 2, 2, 2] rfl ?_
        obtain ⟨p1, hp1⟩ : ∃ p1, p1 = (p.clean (j : Int)).1 := ⟨_, rfl⟩
        rw [← hp1] at hms hh hro2'
        obtain ⟨c1, hc1⟩ : ∃ c1, c1 = c2 := ⟨_, rfl⟩
        have hha1 : p.hand = p1.hand := hh.symm
        have hro1 := hro2'
        have hsub1 := hsub2
        rw [← hp1, hha1, ← hc1]
      all_goals
        obtain ⟨g1, hg1⟩ : ∃ g1, g1 = mgot := ⟨_, rfl⟩
        rw [← hg1] at hms h4
        obtain ⟨cg1, hcg1⟩ : ∃ cg1, cg1 = cg := ⟨_, rfl⟩
        have hgo1 := h4
        have hgs1 : ∀ q ∈ rg, q ∈ ([] : HL) ++ D := h8
        rw [← hg1, ← hcg1]
        subst hms
    case' inr =>
      rw [if_neg hA] at hms
      by_cases hB : xk = 1
      case' pos =>
        rw [if_pos hB] at hms
        subst hB
        repeat (first | refine gx ?_ | refine gN fun _ => ?_ | refine gB fun _ => ?_ | fail)
        refine W.nilChunk ?_
        have ho0 : Own 1 5 (u8s []) none ([] : List Int).length 0 [] := Own.nil _ _
        refine aPr (appU8 tab_ok rfl rfl rfl ho0 (by intro p hp; cases hp) rfl h4 (fun q hq => .inr (by simp [h8 q hq])) (by simp; omega) (by simp; omega)) ?_
        rintro _ _ ⟨ag1, cg1, Hg1, rfl, rfl, hown1⟩
        refine aG ?_
        repeat (first | refine gx ?_ | refine gN fun _ => ?_ | refine gB fun _ => ?_ | fail)
        refine aPr (appU8 tab_ok rfl rfl rfl hown1 (by intro p hp; simp [hp]) rfl hrb (fun q hq => .inr (by simp [hq])) (by simp; omega) (by simp; omega)) ?_
        rintro _ _ ⟨ag2, cg2, Hg2, rfl, rfl, hown2⟩
        refine aG ?_
        repeat (first | refine gx ?_ | refine gN fun _ => ?_ | refine gB fun _ => ?_ | fail)
        refine W.nilChunk ?_
        refine W.order [0, 0, 0, 1, 1, 1] rfl ?_
        obtain ⟨g1, hg1⟩ : ∃ g1, g1 = mgot ++ bs := ⟨_, rfl⟩
        rw [← hg1] at hms
        rw [List.nil_append, ← hg1] at hown2
        obtain ⟨cg1, hcg1⟩ : ∃ cg1, cg1 = cg2 := ⟨_, rfl⟩
        have hgo1 := hown2.roSl
        have hgs1 : ∀ q ∈ Hg2, q ∈ Hg2 ++ D := fun q hq => List.mem_append_left _ hq
        rw [List.nil_append, ← hg1, ← hcg1]
      case' neg =>
        rw [if_neg hB] at hms
        by_cases hk2 : xk = 2
        case' pos =>
          subst hk2
          have hq1 : ¬ xq = 1 := fun h => hA ⟨rfl, h⟩
          repeat (first | refine gh hq1 ?_ | refine gN fun _ => ?_ | refine gB fun _ => ?_ | fail)
        case' neg =>
          repeat (first | refine gh (gc2 hk2 hB) ?_ | refine gN fun _ => ?_ | refine gB fun _ => ?_ | fail)
        all_goals
          refine W.nilChunk ?_
          refine W.nilChunk ?_
          refine W.order [0, 0, 0, 1, 1, 1] rfl ?_
          obtain ⟨g1, hg1⟩ : ∃ g1, g1 = mgot := ⟨_, rfl⟩
          rw [← hg1] at hms h4
          obtain ⟨cg1, hcg1⟩ : ∃ cg1, cg1 = cg := ⟨_, rfl⟩
          have hgo1 := h4
          have hgs1 : ∀ q ∈ rg, q ∈ ([] : HL) ++ D := h8
          rw [← hg1, ← hcg1]
      all_goals
        obtain ⟨p1, hp1⟩ : ∃ p1, p1 = p := ⟨_, rfl⟩
        rw [← hp1] at hms h2
        obtain ⟨c1, hc1⟩ : ∃ c1, c1 = c := ⟨_, rfl⟩
        have hro1 := h2
        have hsub1 : ∀ q ∈ r, q ∈ ([] : HL) ++ D := h6
        rw [← hp1, ← hc1]
        subst hms
    all_goals
      cases rest with
      | cons y rest =>
        rw [if_pos (by simp)] at hout
        subst hout
        repeat (first | refine gx ?_ | refine gN fun _ => ?_ | refine gB fun _ => ?_ | fail)
        refine W.drawH tab_ok 4 [.b false, .b false, .b true, .b true] [3,4] follows (by decide +kernel) (by decide +kernel) rfl (by decide) rfl ?_
        intro _
        refine dG ?_
        repeat (first | refine dL ?_ | refine dS ?_ | (refine dN ?_; intro _; refine dG ?_) | (refine dB ?_; intro _; refine dG ?_) | fail)
        refine WD.nil (W.dropNil (aG ?_))
        refine W.groupV [2, 2] rfl ?_
        refine W.ret (fin _ _ (FinOk.first 1 (aRc (aRc .nil)) rfl ?_))
        exact ⟨_, _, rfl, rfl, _, c1, _, _, ct - 1, _, _, cg1, _, rfl, hro1, hro2, hgo1, hct2, fun q hq => (List.mem_append.1 (hsub1 q hq)).elim (fun h => by first | exact absurd h List.not_mem_nil | simp [h]) (fun h => by first | exact absurd h List.not_mem_nil | simp [h]), fun q hq => by simp [h7 q hq], fun q hq => (List.mem_append.1 (hgs1 q hq)).elim (fun h => by first | exact absurd h List.not_mem_nil | simp [h]) (fun h => by first | exact absurd h List.not_mem_nil | simp [h])⟩
      | nil =>
        rw [if_neg (by simp)] at hout
        repeat (first | refine gx ?_ | refine gN fun _ => ?_ | refine gB fun _ => ?_ | fail)
        by_cases hoo : mo = 1
        case' pos =>
          try exact absurd hoo ho
          all_goals
            rw [if_pos hoo] at hout
            subst hout
            have hL := fun v D hd => RLoadP_spec p1 hsi v D hd mto mpg g1 _ cg1 _ hgo1
            have hD := fun v D hd => RDo0_spec (p1.load mto mpg g1).1 hli v D hd mpg
            have hh1 := loadHand p1 mto mpg g1
            have hh2 := doPageHand (p1.load mto mpg g1).1 mpg Fr.pin
            repeat (first | refine gh hoo ?_ | refine gN fun _ => ?_ | refine gB fun _ => ?_ | fail)
            refine aC (o := hL _ _ ⟨_, c1, _, rfl, hro1, hsub1⟩) (h := ?_) (hro := (fun q hq => (List.mem_append.1 hq).elim (fun h => (List.mem_append.1 h).elim (fun h => by first | exact absurd h List.not_mem_nil | simp [h]) (fun h => by first | exact absurd h List.not_mem_nil | simp [h])) (fun h => (List.mem_append.1 (hgs1 q h)).elim (fun h => by first | exact absurd h List.not_mem_nil | simp [h]) (fun h => by first | exact absurd h List.not_mem_nil | simp [h]))))
            rintro _ _ ⟨H5, v5, rfl, rfl, a5, c5, r5, rfl, hro5, hsub5⟩
            refine aG ?_
            rw [← hh1]
            repeat (first | refine gx ?_ | refine gN fun _ => ?_ | refine gB fun _ => ?_ | fail)
            have hD2 := hD _ _ ⟨a5, c5, r5, rfl, by exact hro5, hsub5⟩
            refine aC (o := hD2) (h := ?_) (hro := (fun q hq => (List.mem_append.1 hq).elim (fun h => by simp [h]) (fun h => (List.mem_append.1 h).elim (fun h => by first | exact absurd h List.not_mem_nil | simp [h]) (fun h => by simp [h]))))
            rintro _ _ ⟨H6, v6, rfl, rfl, a6, c6, r6, rfl, hro6, hsub6⟩
            refine aG ?_
            rw [← hh2]
            repeat (first | refine gx ?_ | refine gN fun _ => ?_ | refine gB fun _ => ?_ | fail)
            refine W.drawH tab_ok 5 [.b false, .b false, .b false, .b true, .b true] [8,9] follows (by decide +kernel) (by decide +kernel) rfl (by decide) rfl ?_
            intro _
            refine dG ?_
            repeat (first | refine dL ?_ | refine dS ?_ | (refine dN ?_; intro _; refine dG ?_) | (refine dB ?_; intro _; refine dG ?_) | fail)
            refine dV (OpVal.build (ps := [_]) tab_ok rfl rfl rfl rfl (by repeat (first | exact trivial | refine ⟨⟨_, _, _, rfl, rfl, rfl⟩, ?_⟩)) rfl) ?_
            repeat (first | refine dL ?_ | refine dS ?_ | (refine dN ?_; intro _; refine dG ?_) | (refine dB ?_; intro _; refine dG ?_) | fail)
            refine WD.nil (W.dropNil (aG ?_))
            refine W.groupV [3, 4, 5] rfl ?_
            refine W.ret (fin _ _ (FinOk.first 1 (aRc (aRc .nil)) rfl ?_))
            exact ⟨_, _, rfl, rfl, a6, c6, r6, none, 0, [], none, 0, [], rfl, hro6, ⟨rfl, .inl ⟨rfl, rfl⟩⟩, ⟨rfl, .inl ⟨rfl, rfl⟩⟩, Nat.le_refl _, fun q hq => by simpa [List.append_assoc] using hsub6 q hq, (fun _ h => by cases h), (fun _ h => by cases h)⟩
        case' neg =>
          try exact absurd ho hoo
          all_goals
            rw [if_neg hoo] at hout
            subst hout
            repeat (first | refine gh hoo ?_ | refine gN fun _ => ?_ | refine gB fun _ => ?_ | fail)
            refine W.drawH tab_ok 5 [.b false, .b false, .b false, .b true, .b true] [4,5] follows (by decide +kernel) (by decide +kernel) rfl (by decide) rfl ?_
            intro _
            refine dG ?_
            repeat (first | refine dL ?_ | refine dS ?_ | (refine dN ?_; intro _; refine dG ?_) | (refine dB ?_; intro _; refine dG ?_) | fail)
            refine dV (OpVal.build (ps := [_]) tab_ok rfl rfl rfl rfl (by repeat (first | exact trivial | refine ⟨⟨_, _, _, rfl, rfl, rfl⟩, ?_⟩)) rfl) ?_
            repeat (first | refine dL ?_ | refine dS ?_ | (refine dN ?_; intro _; refine dG ?_) | (refine dB ?_; intro _; refine dG ?_) | fail)
            refine WD.nil (W.dropNil (aG ?_))
            refine W.order [3, 0, 0] rfl ?_
            refine W.ret (fin _ _ (FinOk.first 1 (aRc (aRc .nil)) rfl ?_))
            exact ⟨_, _, rfl, rfl, _, c1, _, none, 0, [], none, 0, [], rfl, hro1, ⟨rfl, .inl ⟨rfl, rfl⟩⟩, ⟨rfl, .inl ⟨rfl, rfl⟩⟩, Nat.le_refl _, hsub1, (fun _ h => by cases h), (fun _ h => by cases h)⟩
end Go.Proofs.YtfajcpnbhnddbaaGreat
namespace Go.Proofs.YtfajcpnbhnddbaaGreat
set_option linter.unusedVariables false
open Go Go.Sl Go.IntWalk
set_option maxHeartbeats 4000000
set_option maxRecDepth 20000
def lds (t : List Io) : Nat := (t.filter fun x => decide (x.1 = 1)).length
structure MInv (m : Mc) (p : Pt) : Prop where
  inv : p.Inv
  u8 : u8ok m.got
  idle : m.todo = [] → m.got = []
  room : m.got.length + 16 * lds m.todo ≤ 32
  sto : ∀ x ∈ m.todo, x.1 = 2 → (x.2.2 = 0 ∨ x.2.2 = 1) ∧ ∃ j : Nat, j < p.fs.length ∧ mget p.tbl x.2.1 = some (j : Int) ∧ (m.op = 1 → (p.at_ j).pins = 0)
  one : m.op = 1 → ∀ l x r, m.todo = l ++ x :: r → x.1 = 2 → x.2.2 = 1 → ∀ y ∈ r, y.1 ≠ 2
theorem MInv.same {m m' : Mc} {p p' : Pt} (hp : p'.Inv) (ht : m'.todo = []) (hg : m'.got = []) : MInv m' p' :=
  ⟨hp, by rw [hg]; (intro b hb; cases hb), fun _ => hg, by rw [hg, ht]; decide, (by rw [ht]; intro x hx; cases hx), by rw [ht]; intro _ l x r h; simp at h⟩
theorem idle_inv {p : Pt} (hp : p.Inv) : MInv Mc.idle p := MInv.same (m := Mc.idle) (p := p) hp rfl rfl
theorem mem_pages {k : Int} {ps : List Int} {x : Io} (h : x ∈ pages k ps) : x.1 = k ∧ x.2.1 ∈ ps ∧ (x.2.2 = 0 ∨ x.2.2 = 1) := by
  unfold pages at h
  obtain ⟨q, hq, hx⟩ := List.mem_flatMap.1 h
  simp only [both, List.mem_cons, List.not_mem_nil, or_false] at hx
  rcases hx with rfl | rfl
  · exact ⟨rfl, hq, .inl rfl⟩
  · exact ⟨rfl, hq, .inr rfl⟩
theorem lds_pages2 (ps : List Int) : lds (pages 2 ps) = 0 := by
  unfold lds
  rw [List.filter_eq_nil_iff.2]
  · rfl
  · intro x hx
    rw [(mem_pages hx).1]
    decide
theorem lds_append (a b : List Io) : lds (a ++ b) = lds a + lds b := by unfold lds; simp
theorem dirty_used {p : Pt} (hi : p.Inv) {j : Nat} (hj : j < p.fs.length) (hd : p.fs[j].dirty = true) : p.fs[j].used = true := by
  by_cases hu : p.fs[j].used = true
  · exact hu
  · have := hi.emp _ (List.getElem_mem hj) (by simpa using hu)
    rw [this] at hd
    cases hd
theorem mem_dpgs {p : Pt} (hi : p.Inv) {g : Fr → Bool} {x : Int} (h : x ∈ dpgs p.fs g) : ∃ j : Nat, j < p.fs.length ∧ mget p.tbl x = some (j : Int) := by
  unfold dpgs at h
  obtain ⟨f, hf, rfl⟩ := List.mem_map.1 h
  obtain ⟨hf1, hf2⟩ := List.mem_filter.1 hf
  obtain ⟨j, hj, rfl⟩ := List.getElem_of_mem hf1
  simp only [Bool.and_eq_true] at hf2
  exact ⟨j, hj, hi.inv j hj (dirty_used hi hj hf2.1)⟩
theorem flush_inv {m : Mc} {p : Pt} (hi : p.Inv) (hop : m.op ≠ 1) (hg : m.got = []) (ds : List Int) (hds : ∀ x ∈ ds, ∃ j : Nat, j < p.fs.length ∧ mget p.tbl x = some (j : Int)) : MInv { m with todo := planFlush ds } p := by
  refine ⟨hi, by rw [hg]; (intro b hb; cases hb), fun h => hg, ?_, fun x hx hk => ?_, fun h => absurd h hop⟩
  · simp only
    rw [hg]
    unfold planFlush
    rw [lds_append, lds_pages2]
    decide
  · simp only [planFlush, List.mem_append, List.mem_cons, List.not_mem_nil, or_false] at hx
    rcases hx with hx | rfl
    · obtain ⟨h1, h2, h3⟩ := mem_pages hx
      obtain ⟨j, hj, h4⟩ := hds _ h2
      exact ⟨h3, j, hj, h4, fun h => absurd h hop⟩
    · exact absurd hk (by decide)
theorem begin_inv {m : Mc} {p : Pt} (h : MInv m p) (ht : m.todo = []) {q : Rq} (h1 : 1 ≤ q.op) (h8 : q.op ≤ 8) (hu : u8ok q.data) : MInv (mBegin m p q).1 (mBegin m p q).2.1 := by
  have hi := h.inv
  have hg := h.idle ht
  have hop : q.op = 1 ∨ q.op = 2 ∨ q.op = 3 ∨ q.op = 4 ∨ q.op = 5 ∨ q.op = 6 ∨ q.op = 7 ∨ q.op = 8 := by omega
  obtain ⟨qo, qp, qf, ql, qd⟩ := q
  simp only at hop hu
  rcases hop with rfl | rfl | rfl | rfl | rfl | rfl | rfl | rfl
  · show MInv (mFetch ⟨1, qp, m.to, m.todo, m.got⟩ p).1 (mFetch ⟨1, qp, m.to, m.todo, m.got⟩ p).2.1
    unfold mFetch
    simp only
    split
    · exact MInv.same (m := m) (p := p) (Pt.doPage_inv hi qp pin_keeps) ht hg
    · have hvi := Pt.victim_inv hi
      unfold mMiss
      cases hv : p.victim.2 with
      | none => exact MInv.same (m := m) (p := p) hvi ht hg
      | some i =>
        obtain ⟨hj, hp0⟩ := victim_some hi hv
        simp only
        cases hd : (p.victim.1.at_ (i : Int)).dirty with
        | false =>
          have hi2 : (if (p.victim.1.at_ (i : Int)).used = true ∧ False then (p.victim.1.release (i : Int)).1 else p.victim.1).Inv := by
            split
            · exact Pt.release_inv hvi _
            · exact hvi
          refine ⟨?_, by rw [hg]; (intro b hb; cases hb), fun _ => hg, ?_, fun x hx hk => ?_, fun _ l x r hl hk => ?_⟩
          · split
            · exact Pt.release_inv hvi _
            · exact hvi
          · rw [hg]; exact Nat.le_refl 32
          · simp only [planFetch] at hx
            rw [if_neg (by simp)] at hx
            have := (mem_pages (by simpa using hx)).1
            omega
          · have hx : x ∈ planFetch qp false (p.victim.1.at_ (i : Int)).page := by
              have e : planFetch qp false (p.victim.1.at_ (i : Int)).page = l ++ x :: r := hl
              rw [e]; simp
            simp only [planFetch] at hx
            rw [if_neg (by simp)] at hx
            have := (mem_pages (by simpa using hx)).1
            omega
        | true =>
          rw [if_neg (by simp)]
          have hus : (p.victim.1.at_ (i : Int)).used = true := by
            rw [Pt.at_nat hj] at hd ⊢
            exact dirty_used hvi hj hd
          refine ⟨hvi, by rw [hg]; (intro b hb; cases hb), fun _ => hg, ?_, fun x hx hk => ?_, fun _ l x r hl hk hk2 y hy => ?_⟩
          · rw [hg]; exact Nat.le_refl 32
          · have hx2 : x ∈ planFetch qp true (p.victim.1.at_ (i : Int)).page := hx
            simp only [planFetch, if_true, List.mem_append] at hx2
            rcases hx2 with hx2 | hx2
            · obtain ⟨_, h2, h3⟩ := mem_pages hx2
              simp only [List.mem_cons, List.not_mem_nil, or_false] at h2
              refine ⟨h3, i, hj, ?_, fun _ => hp0⟩
              rw [h2, Pt.at_nat hj]
              rw [Pt.at_nat hj] at hus
              exact hvi.inv i hj hus
            · have := (mem_pages hx2).1
              omega
          · generalize (p.victim.1.at_ (i : Int)).page = o at hl
            have hl2 : [((2 : Int), o, (0 : Int)), (2, o, 1), (1, qp, 0), (1, qp, 1)] = l ++ x :: r := hl
            match l, hl2 with
            | [], e => simp only [List.nil_append, List.cons.injEq] at e; obtain ⟨rfl, -⟩ := e; exact absurd hk2 (by simp)
            | [_], e =>
              simp only [List.cons_append, List.nil_append, List.cons.injEq] at e
              obtain ⟨-, rfl, rfl⟩ := e
              simp only [List.mem_cons, List.not_mem_nil, or_false] at hy
              rcases hy with rfl | rfl <;> simp
            | [_, _], e => simp only [List.cons_append, List.nil_append, List.cons.injEq] at e; obtain ⟨-, -, rfl, -⟩ := e; exact absurd hk (by simp)
            | [_, _, _], e => simp only [List.cons_append, List.nil_append, List.cons.injEq] at e; obtain ⟨-, -, -, rfl, -⟩ := e; exact absurd hk (by simp)
            | _ :: _ :: _ :: _ :: l, e => simp at e
  · exact MInv.same (m := m) (p := p) (Pt.get_inv hi qp qf ql) ht hg
  · exact MInv.same (m := m) (p := p) (Pt.doPage_inv hi qp (put_keeps qf hu)) ht hg
  · exact MInv.same (m := m) (p := p) (Pt.doPage_inv hi qp unpin_keeps) ht hg
  · exact flush_inv (m := ⟨5, qp, m.to, m.todo, m.got⟩) hi (by simp) hg _ (fun x hx => by rw [selD_eq] at hx; exact mem_dpgs hi hx)
  · exact flush_inv (m := ⟨6, qp, m.to, m.todo, m.got⟩) hi (by simp) hg _ (fun x hx => by rw [selD_eq] at hx; exact mem_dpgs hi hx)
  · show MInv ⟨7, qp, m.to, m.todo, m.got⟩ (mDiscard p qp).1
    refine MInv.same (m := m) (p := p) ?_ ht hg
    unfold mDiscard
    split
    · exact hi
    · exact Pt.release_inv hi _
  · exact MInv.same (m := m) (p := p) hi ht hg
theorem clean_tbl (p : Pt) (i : Int) : (p.clean i).1.tbl = p.tbl := by unfold Pt.clean; split <;> rfl
theorem clean_len (p : Pt) (i : Int) : (p.clean i).1.fs.length = p.fs.length := by
  unfold Pt.clean
  split
  · rfl
  · simp [Pt.setF]
theorem mStep_inv {m : Mc} {p : Pt} (h : MInv m p) (hne : m.todo ≠ []) {bs : List Int} (hu : u8ok bs) (hl : bs.length = 16) :
    (mStep m p bs).2.1.Inv ∧ u8ok (mStep m p bs).1.got ∧ (mStep m p bs).1.got.length + 16 * lds (mStep m p bs).1.todo ≤ 32 ∧ (mStep m p bs).1.op = m.op ∧ (mStep m p bs).1.todo = m.todo.tail ∧
      ((mStep m p bs).1.todo ≠ [] → MInv (mStep m p bs).1 (mStep m p bs).2.1) := by
  obtain ⟨mo, mpg, mto, todo, mgot⟩ := m
  have hi := h.inv
  cases todo with
  | nil => exact absurd rfl hne
  | cons x rest =>
    obtain ⟨xk, xp, xq⟩ := x
    have hms : mStep ⟨mo, mpg, mto, (xk, xp, xq) :: rest, mgot⟩ p bs = if xk = 2 ∧ xq = 1 then (⟨mo, mpg, mto, rest, mgot⟩, mStored ⟨mo, mpg, mto, rest, mgot⟩ p xp) else if xk = 1 then (⟨mo, mpg, mto, rest, mgot ++ bs⟩, p, C6.none) else (⟨mo, mpg, mto, rest, mgot⟩, p, C6.none) := rfl
    have hlds : lds ((xk, xp, xq) :: rest) = (if xk = 1 then 1 else 0) + lds rest := by
      unfold lds
      rw [List.filter_cons]
      by_cases hk : xk = 1
      · simp [hk]; omega
      · simp [hk]
    have hroom := h.room
    simp only at hroom
    rw [hlds] at hroom
    have hone : mo = 1 → ∀ l x r, rest = l ++ x :: r → x.1 = 2 → x.2.2 = 1 → ∀ y ∈ r, y.1 ≠ 2 := fun h1 l x r he => h.one h1 ((xk, xp, xq) :: l) x r (by show _ :: rest = _; rw [he]; rfl)
    have hsto : ∀ x ∈ rest, x.1 = 2 → (x.2.2 = 0 ∨ x.2.2 = 1) ∧ ∃ j : Nat, j < p.fs.length ∧ mget p.tbl x.2.1 = some (j : Int) ∧ (mo = 1 → (p.at_ j).pins = 0) := fun x hx => h.sto x (List.mem_cons_of_mem _ hx)
    rw [hms]
    by_cases hA : xk = 2 ∧ xq = 1
    · rw [if_pos hA]
      obtain ⟨rfl, rfl⟩ := hA
      obtain ⟨-, j, hj, hg, hpin⟩ := h.sto _ (List.mem_cons_self) rfl
      simp only at hg hpin
      have hci := Pt.clean_inv hi (j : Int)
      rw [if_neg (by decide)] at hroom
      have hr : mgot.length + 16 * lds rest ≤ 32 := by omega
      unfold mStored
      rw [hg]
      simp only [Option.getD_some]
      by_cases ho : mo = 1
      · rw [if_pos ho]
        have hri := Pt.release_inv hci (j : Int)
        refine ⟨hri, h.u8, hr, by first | trivial | rfl, by first | trivial | rfl, fun hne2 => ⟨hri, h.u8, fun h0 => absurd h0 hne2, hr, fun x hx hk => ?_, hone⟩⟩
        exact absurd hk (h.one ho [] _ rest rfl rfl rfl x hx)
      · rw [if_neg ho]
        refine ⟨hci, h.u8, hr, by first | trivial | rfl, by first | trivial | rfl, fun hne2 => ⟨hci, h.u8, fun h0 => absurd h0 hne2, hr, fun x hx hk => ?_, hone⟩⟩
        obtain ⟨h1, k, hk1, hk2, -⟩ := hsto x hx hk
        refine ⟨h1, k, ?_, ?_, fun h => absurd h ho⟩
        · rw [clean_len]; exact hk1
        · rw [clean_tbl]; exact hk2
    · rw [if_neg hA]
      by_cases hk : xk = 1
      · rw [if_pos hk] at hroom ⊢
        have hr : (mgot ++ bs).length + 16 * lds rest ≤ 32 := by rw [List.length_append]; omega
        have hu2 : u8ok (mgot ++ bs) := fun b hb => (List.mem_append.1 hb).elim (h.u8 b) (hu b)
        exact ⟨hi, hu2, hr, rfl, rfl, fun hne2 => ⟨hi, hu2, fun h0 => absurd h0 hne2, hr, hsto, hone⟩⟩
      · rw [if_neg hk] at hroom ⊢
        have hr : mgot.length + 16 * lds rest ≤ 32 := by omega
        exact ⟨hi, h.u8, hr, rfl, rfl, fun hne2 => ⟨hi, h.u8, fun h0 => absurd h0 hne2, hr, hsto, hone⟩⟩
theorem end_load_inv {m : Mc} {p : Pt} (h : MInv m p) (hne : m.todo ≠ []) {bs : List Int} (hu : u8ok bs) (hl : bs.length = 16) (to page : Int) : ((mStep m p bs).2.1.load to page (mStep m p bs).1.got).1.Inv := by
  obtain ⟨h1, h2, -⟩ := mStep_inv h hne hu hl
  exact Pt.load_inv h1 _ _ h2
theorem end_inv {m : Mc} {p : Pt} (h : MInv m p) (hne : m.todo ≠ []) (e : Int) {bs : List Int} (hu : u8ok bs) (hl : bs.length = 16) : MInv (mEnd m p e bs).1 (mEnd m p e bs).2.1 := by
  obtain ⟨h1, h2, h3, h4, h5, h6⟩ := mStep_inv h hne hu hl
  have hli := end_load_inv h hne hu hl m.to m.page
  unfold mEnd
  split
  · exact idle_inv h.inv
  · split
    · rename_i h0
      exact h6 (by intro he; rw [he] at h0; exact absurd h0 (by decide))
    · refine idle_inv ?_
      simp only
      split
      · exact Pt.doPage_inv hli _ pin_keeps
      · exact h1
theorem end_sto {m : Mc} {p : Pt} (h : MInv m p) (hne : m.todo ≠ []) : m.io.1 = 2 ∧ m.io.2.2 = 1 → ∃ j : Nat, j < p.fs.length ∧ mget p.tbl m.io.2.1 = some (j : Int) ∧ (m.op = 1 → (p.at_ j).pins = 0) := by
  rintro ⟨h1, -⟩
  cases ht : m.todo with
  | nil => exact absurd ht hne
  | cons x rest =>
    have hio : m.io = x := by unfold Mc.io; rw [ht]; rfl
    rw [hio] at h1 ⊢
    exact (h.sto x (by rw [ht]; exact List.mem_cons_self) h1).2
theorem data_k {m : Mc} {p : Pt} (h : MInv m p) : m.io.1 = 2 → m.io.2.2 = 0 ∨ m.io.2.2 = 1 := by
  intro h1
  cases ht : m.todo with
  | nil => unfold Mc.io at h1; rw [ht] at h1; exact absurd h1 (by decide)
  | cons x rest =>
    have hio : m.io = x := by unfold Mc.io; rw [ht]; rfl
    rw [hio] at h1 ⊢
    exact (h.sto x (by rw [ht]; exact List.mem_cons_self) h1).1
theorem got_len {m : Mc} {p : Pt} (h : MInv m p) {bs : List Int} (hl : bs.length = 16) : m.got.length + bs.length ≤ 100000 := by have := h.room; omega
end Go.Proofs.YtfajcpnbhnddbaaGreat
namespace Go.Proofs.YtfajcpnbhnddbaaGreat
open Go Go.Sl Go.IntWalk
set_option maxHeartbeats 8000000
set_option maxRecDepth 20000
theorem c6_self (c : C6) : ∀ f ∈ (Tryz.prog.fieldsOf 40).toList, SelfEq Tryz.prog c.l f := by
  have h : (Tryz.prog.fieldsOf 40).toList.map (fun f => (f.type, f.offset)) = [(38, 0), (38, 1), (38, 2), (38, 3), (38, 4), (38, 5)] := by kernel_rfl
  intro f hf
  have := List.mem_map_of_mem (f := fun f : Field => (f.type, f.offset)) hf
  rw [h] at this
  simp only [List.mem_cons, Prod.mk.injEq, List.not_mem_nil, or_false] at this
  have hi : Tryz.prog.underlying 38 = some (.int .u64) := Tryz.underlying38
  have ha : IsAgg Tryz.prog 38 false := ty_38.1
  rcases this with ⟨h1, h2⟩ | ⟨h1, h2⟩ | ⟨h1, h2⟩ | ⟨h1, h2⟩ | ⟨h1, h2⟩ | ⟨h1, h2⟩
  all_goals exact SelfEq.int (by rw [h1]; exact ha) (by rw [h1]; exact hi) (by rw [h2]; rfl)
theorem und_c6 : Tryz.prog.underlying 40 = some (.struct (Tryz.prog.fieldsOf 40)) := by kernel_rfl
theorem held_c6 : Tryz.prog.stoodInHeld 40 = false := by kernel_rfl
theorem guard_c6 : Tryz.prog.eqGuardType Tryz.prog.depth 40 = false := by kernel_rfl
theorem eqC {n : Nat} {R : HL} {cx : Cx} {ρ : Env} {L : List HL} {ty t' : TypeId} {x y : Operand} (c : C6) (hx : ev? ρ x = some c.v) (hy : ev? ρ y = some c.v) :
    OpVal Tryz.prog n R cx (.binOp .eql 40 x y t') ty ρ L (.bool true) := OpVal.eqSelf (l := c.l) hx hy und_c6 held_c6 guard_c6 (c6_self c)
theorem neC {n : Nat} {R : HL} {cx : Cx} {ρ : Env} {L : List HL} {ty t' : TypeId} {x y : Operand} (c : C6) (hx : ev? ρ x = some c.v) (hy : ev? ρ y = some c.v) :
    OpVal Tryz.prog n R cx (.binOp .neq 40 x y t') ty ρ L (.bool false) := OpVal.neSelf (l := c.l) hx hy und_c6 held_c6 guard_c6 (c6_self c)
end Go.Proofs.YtfajcpnbhnddbaaGreat
namespace Go.Sl
open Go
theorem Lf.congr {Y M L' : List HL} {w w' : World} (h : Y.flatten = M.flatten) (hl : Lf M L' w w') : Lf Y L' w w' := by
  unfold Lf at *
  rw [h]
  exact hl
theorem WD.storeR {P : Program} {n : Nat} {R : HL} {cx : Cx} {ops : Array Oper} {K : Env → List HL → Prop} {el : List Kd} {fl : List (Nat × Obj)} {ρ : Env} {Y M : List HL} {T : Tab} (hT : TabOk P T) {l : List Oper} {t ty : TypeId} {x y : Operand} {pos : String} {af : Array Edge} {b off m : Nat} {ag : Bool} {L' : List HL} {cl cl' vs : List Value} {e : TypeId} {v : Value}
    (hY : Y.flatten = M.flatten) (hx : ev? ρ x = some (.pointer (some ⟨b, off, none⟩))) (hu : Upd b (.cells cl.toArray e (0, 0)) (.cells cl'.toArray e (0, 0)) M L')
    (hy : ev? ρ y = some v) (hc : cells? v = some vs) (hz : look? T.tys t = some (ag, m)) (hl : vs.length = m) (h1 : allOne vs = true)
    (hv : splice? cl off vs = some cl')
    (hk : WD P n R cx ops el fl l ρ L' K) : WD P n R cx ops (.b true :: el) fl (⟨none, .store t x y, ty, pos, af, none⟩ :: l) ρ Y K := by
  refine WD.act rfl fun a w hf hs0 => ?_
  have hs : St cx.w0 cx.S0 R M w := hs0.perm (X := []) (by rw [hY]; simp)
  obtain ⟨A, B, e1, -⟩ := hu.split
  have hb : w.heap[b]? = some (.cells cl.toArray e (0, 0)) := hs.has (b, .cells cl.toArray e (0, 0)) (by rw [e1]; simp)
  have hst := run_storeCells_splice (P := P) hb hv h1
  have hcs := cells?_eq hc
  have hz' := (hT.tys _ (look?_mem hz)).2
  have hr : (execOp a.eval ⟨none, .store t x y, ty, pos, af, none⟩).run P w = .ok .skip (w.setRow b cl'.toArray) := by
    unfold execOp
    simp [hf.ev hx, hf.ev hy, Instr.storeAt, Instr.sureAddr, storeVar, hz' w, hcs, hl, hst]
  exact .inr (.inl ⟨_, hr, _, _, by simpa [Act.put] using hf, ⟨hs.upd hu (setRow_heap w b _ _ e _ hb) (fun j hj => setRow_other w b j _ hj) (setRow_size ..) ⟨rfl, rfl, rfl⟩, Lf.congr hY (Lf.upd hu (fun j hj => setRow_other w b j _ hj) (setRow_size ..))⟩, hk⟩)
theorem WD.guardGoCallQ {P : Program} {n : Nat} {R : HL} {cx : Cx} {ops : Array Oper} {K : Env → List HL → Prop} {el : List Kd} {fl : List (Nat × Obj)} {ρ : Env} {Y : List HL} {d : Nat} {c : Call} {ty : TypeId} {pos : String} {af : Array Edge} {l : List Oper} {j s : Nat} {want b : Bool} {fo : Operand} {xs : Array Operand} {tys : Array TypeId}
    {f : FuncId} {fst vs cap args : List Value} {ro : HL} {post : Value → List HL → Prop} (v0 : Value)
    (hj : (ops[j]?).bind (·.dst) = some s) (hb : ρ.get? s = some (.bool b)) (hw : b = want)
    (hc : c = ⟨.value fo, xs, tys⟩) (hfo : ev? ρ fo = some (.func (.func f) fst.toArray cap.toArray)) (hxs : evs? ρ xs.toList = some vs) (hargs : fst ++ vs ++ cap = args) (hi : P.inits.idxOf? f = none)
    (hsp : Ctr P f args [] ro post) (hv : ∀ v L', post v L' → v = v0) (hro : ∀ p ∈ ro, p ∈ R) (hd : d < n)
    (hk : WD P n R cx ops el fl l ((d, v0) :: ρ) Y K) :
    WD P n R cx ops (.b false :: el) fl (⟨some d, .call c, ty, pos, af, some (j, want)⟩ :: l) ρ Y K := by
  refine WD.guardGo hj hb hw fun E F i a h3 hf hwt => ⟨v0, .inl ⟨hwt, fun Y w hs => .inr ⟨f, args.toArray, w, ?_, hi, hsp.quiet hv hro hs⟩⟩, hk.go E F (i + 1) _ h3 (hf.put hd v0)⟩
  have hxs' := hf.evs hxs
  have hx : xs.map a.eval = vs.toArray := by cases xs; simp at hxs'; simp [hxs']
  unfold execOp
  subst hc
  have hcall := hsp.callable
  simp only [resolve, Deferred.ofValue, hf.ev hfo, hx, Sem.run_bind, Sem.run_pure, Result.andThen_ok, invoke]
  rw [show (fst.toArray ++ vs.toArray ++ cap.toArray) = args.toArray from by rw [← hargs]; simp, hcall]
theorem WD.guardGoA {P : Program} {n : Nat} {R : HL} {cx : Cx} {ops : Array Oper} {K : Env → List HL → Prop} {el : List Kd} {fl : List (Nat × Obj)} {ρ : Env} {Y : List HL} {d : Nat} {op : Op} {ty : TypeId} {pos : String} {af : Array Edge} {l : List Oper} {j s : Nat} {want b : Bool} {v : Value}
    (hj : (ops[j]?).bind (·.dst) = some s) (hb : ρ.get? s = some (.bool b)) (hw : b = want) (h : OpVal P n R cx op ty ρ Y v) (hd : d < n) (hk : WD P n R cx ops el fl l ((d, v) :: ρ) Y K) :
    WD P n R cx ops (.b true :: el) fl (⟨some d, op, ty, pos, af, some (j, want)⟩ :: l) ρ Y K :=
  WD.guardGo hj hb hw fun E F i a h3 hf hwt => .inl ⟨hwt, fun w hs => .inl ⟨_, _, h.go ⟨some d, op, ty, pos, af, some (j, want)⟩ a w rfl rfl hf hs, Y, ⟨hs, Lf.rfl'⟩, hk.go E F (i + 1) _ h3 (hf.put hd v)⟩⟩
end Go.Sl
namespace Go.Proofs.YtfajcpnbhnddbaaGreat
open Go Go.Sl
theorem dSb {n : Nat} {R : HL} {cx : Cx} {ρ ρ' : Env} {Y Y' M : List HL} {ops : Array Oper} {K : Env → List HL → Prop} {el el' : List Kd} {fl : List (Nat × Obj)} {ty t : TypeId} {x y : Operand} {pos : String} {af : Array Edge} {l l' : List Oper} {v : Value}
    {b off m : Nat} {lv cl' vs : List Value} {e : TypeId} {ag : Bool} {L2 : List HL} (i : Nat) (h : WD Tryz.prog n R cx ops el' fl l' ρ' Y' K) (hM : burstAt? i Y = some M := by exact rfl) (hx : ev? ρ x = some (.pointer (some ⟨b, off, none⟩)) := by exact rfl)
    (hu : Upd b (.cells lv.toArray e (0, 0)) (.cells cl'.toArray e (0, 0)) M L2 := by repeat (first | exact Upd.here | apply Upd.there))
    (hy : ev? ρ y = some v := by exact rfl) (hc : cells? v = some vs := by exact rfl) (hz : look? tab.tys t = some (ag, m) := by exact rfl) (hl : vs.length = m := by exact rfl) (ho : allOne vs = true := by exact rfl)
    (hv : splice? lv off vs = some cl' := by exact rfl) (h1 : ddrive tab n el l ρ = some (el', l', ρ') := by exact rfl) (h2 : norm? L2 = some Y' := by exact rfl) :
    WD Tryz.prog n R cx ops (.b true :: el) fl (⟨none, .store t x y, ty, pos, af, none⟩ :: l) ρ Y K := WD.storeR tab_ok (burstAt?_flat hM) hx hu hy hc hz hl ho hv (WD.step tab_ok h1 h2 h)
theorem dQg {n : Nat} {R : HL} {cx : Cx} {ρ ρ' : Env} {Y Y' : List HL} {ops : Array Oper} {K : Env → List HL → Prop} {el el' : List Kd} {fl : List (Nat × Obj)} {d : Nat} {ty : TypeId} {pos : String} {af : Array Edge} {l l' : List Oper} {v : Value} {j sl : Nat} {want bb : Bool} {ro : HL} {post : Value → List HL → Prop} {cc : Call} {fo : Operand} {xs : Array Operand} {tys : Array TypeId} {f : FuncId} {fst us cap args : List Value}
    (hj : (ops[j]?).bind (·.dst) = some sl := by exact rfl) (hb : ρ.get? sl = some (.bool bb) := by exact rfl) (hw : bb = want := by first | rfl | exact dt ‹_› | exact df ‹_› | exact ndT ‹_› | exact ndF ‹_› | (simp; done) | exact dt (by omega) | exact df (by omega) | exact ndT (by omega) | exact ndF (by omega) | omega)
    (hc : cc = ⟨.value fo, xs, tys⟩ := by exact rfl) (hfo : ev? ρ fo = some (.func (.func f) fst.toArray cap.toArray) := by exact rfl) (hxs : evs? ρ xs.toList = some us := by exact rfl) (hargs : fst ++ us ++ cap = args := by exact rfl)
    (hi : Tryz.prog.inits.idxOf? f = none := by kernel_rfl) (o : Ctr Tryz.prog f args [] ro post) (h : WD Tryz.prog n R cx ops el' fl l' ρ' Y' K) (hv : ∀ u L', post u L' → u = v := by (rintro _ _ ⟨rfl, _⟩; rfl)) (hro : ∀ p ∈ ro, p ∈ R := by first | (intro p hp; cases hp; done) | (intro p hp; simpa using hp) | (intro p hp; simp at hp ⊢; simp [hp]; done)) (hd : d < n := by exact lb rfl)
    (h1 : ddrive tab n el l ((d, v) :: ρ) = some (el', l', ρ') := by exact rfl) (h2 : norm? Y = some Y' := by exact rfl) :
    WD Tryz.prog n R cx ops (.b false :: el) fl (⟨some d, .call cc, ty, pos, af, some (j, want)⟩ :: l) ρ Y K := WD.guardGoCallQ v hj hb hw hc hfo hxs hargs hi o hv hro hd (WD.step tab_ok h1 h2 h)
theorem dVg {n : Nat} {R : HL} {cx : Cx} {ρ ρ' : Env} {Y Y' : List HL} {ops : Array Oper} {K : Env → List HL → Prop} {el el' : List Kd} {fl : List (Nat × Obj)} {d : Nat} {ty : TypeId} {pos : String} {af : Array Edge} {l l' : List Oper} {v : Value} {j sl : Nat} {want bb : Bool} {op : Op} (o : OpVal Tryz.prog n R cx op ty ρ Y v) (h : WD Tryz.prog n R cx ops el' fl l' ρ' Y' K)
    (hj : (ops[j]?).bind (·.dst) = some sl := by exact rfl) (hb : ρ.get? sl = some (.bool bb) := by exact rfl) (hw : bb = want := by first | rfl | exact dt ‹_› | exact df ‹_› | exact ndT ‹_› | exact ndF ‹_› | (simp; done) | exact dt (by omega) | exact df (by omega) | exact ndT (by omega) | exact ndF (by omega) | omega) (hd : d < n := by exact lb rfl)
    (h1 : ddrive tab n el l ((d, v) :: ρ) = some (el', l', ρ') := by exact rfl) (h2 : norm? Y = some Y' := by exact rfl) :
    WD Tryz.prog n R cx ops (.b true :: el) fl (⟨some d, op, ty, pos, af, some (j, want)⟩ :: l) ρ Y K := WD.guardGoA hj hb hw o hd (WD.step tab_ok h1 h2 h)
theorem dAp {n : Nat} {R : HL} {cx : Cx} {ρ : Env} {Y rest : List HL} {ops : Array Oper} {K : Env → List HL → Prop} {el : List Kd} {fl : List (Nat × Obj)} {d : Nat} {ty t : TypeId} {x y : Operand} {pos : String} {af : Array Edge} {l : List Oper} {m e bytes len cap nx cxx bx ox : Nat} {cs news : List Value} {a : Option Addr} {H : HL} {lx : List Value} {ex : TypeId} {frx : Nat × Nat} (ho : Own m e cs a len cap H)
    (hk : ∀ v L', (∃ a' cap' H', v = .slice a' (len + nx) cap' ∧ L' = [H'] ∧ Own m e (cs ++ news) a' (len + nx) cap' H') → WD Tryz.prog n R cx ops el fl l ((d, v) :: ρ) (L' ++ rest) K)
    (ht : look? tab.sls t = some e := by exact rfl) (hi : look? tab.infs e = some (m, bytes) := by exact rfl) (hs : ev? ρ x = some (.slice a len cap) := by exact rfl) (hH : ∀ p ∈ H, p ∈ Y.flatten := by (intro p hp; simp [hp]))
    (hx : ev? ρ y = some (.slice (some ⟨bx, ox, none⟩) nx cxx) := by exact rfl) (hb : At R Y bx (.cells lx.toArray ex frx) := by repeat (first | exact oh | exact rh | exact rhF | apply ot | apply raF | apply rt)) (hn : seg? lx ox (nx * m) = some news := by exact rfl)
    (h1 : allOne news = true := by exact rfl) (hbig : (len + nx) * bytes ≤ 140737488355328 := by omega) (hbig2 : len + nx ≤ 140737488355328 := by omega)
    (hsel : Sel Y [H] rest := by repeat (first | exact Sel.nil | (apply Sel.cons; (repeat (first | exact Pick.here | apply Pick.there))))) (hd : d < n := by exact lb rfl) :
    WD Tryz.prog n R cx ops (.b true :: el) fl (⟨some d, .call ⟨.builtin .append, #[x, y], #[t, t]⟩, ty, pos, af, none⟩ :: l) ρ Y K :=
  WD.prim (app tab_ok ht hi hs ho hH hx hb hn h1 hbig hbig2) hsel hd hk
end Go.Proofs.YtfajcpnbhnddbaaGreat
