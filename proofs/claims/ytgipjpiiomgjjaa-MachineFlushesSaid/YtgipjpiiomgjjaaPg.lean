/-
  What is done with a partition's pages: of, Pin, Unpin, Get, Put.
-/
import Derived.Test.YtgipjpiiomgjjaaPf
import Derived.Test.YtgipjpiiomgjjaaPv
namespace Go.Proofs.Ytgipjpiiomgjjaa
open Go Go.Sl Go.IntWalk
set_option maxHeartbeats 2000000
set_option maxRecDepth 20000
structure Pt.Inv (p : Pt) : Prop where
  ok : p.Ok
  good : ∀ f ∈ p.fs, f.Good
  hand : 0 ≤ p.hand ∧ p.hand < p.fs.length
  tbl : ∀ page i, mget p.tbl page = some i → ∃ j, ∃ _ : j < p.fs.length, i = (j : Int) ∧ p.fs[j].used = true ∧ p.fs[j].page = page
  inv : ∀ j (h : j < p.fs.length), p.fs[j].used = true → mget p.tbl p.fs[j].page = some (j : Int)
  emp : ∀ f ∈ p.fs, f.used = false → f = Fr.zero
  nd : (p.tbl.map (·.1)).Nodup
def Pt.setF (p : Pt) (j : Nat) (f : Fr) : Pt := ⟨p.fs.set j f, p.tbl, p.hand⟩
theorem pin_method (bf off : Nat) (w : World) : (do let d ← Deferred.ofValue (.func (.methodOf 103 "Pin") #[] #[]) #[.pointer (some ⟨bf, off, none⟩)]; invoke d.target d.args : Sem Next).run Try.prog w = .ok (.enter 57 #[.pointer (some ⟨bf, off, none⟩)]) w := by
  kernel_rfl
theorem unpin_method (bf off : Nat) (w : World) : (do let d ← Deferred.ofValue (.func (.methodOf 103 "Unpin") #[] #[]) #[.pointer (some ⟨bf, off, none⟩)]; invoke d.target d.args : Sem Next).run Try.prog w = .ok (.enter 88 #[.pointer (some ⟨bf, off, none⟩)]) w := by
  kernel_rfl
theorem of_spec (p : Pt) (hi : p.Inv) (b : Nat) (H : HL) (hp : PtAt p b H) (page : Int) (dv : Value) (X : HL) (ro : HL) (Q : Fr → Fr → Value → HL → Prop)
    (hdo : ∀ (j : Nat) (h : j < p.fs.length) (A B : List Value) (bf off : Nat), A.length = off → CtrV Try.prog dv [.pointer (some ⟨bf, off, none⟩)] [[(bf, .cells (A ++ p.fs[j].l ++ B).toArray 58 (0, 0))], X] ro
      (fun v L' => ∃ f' X', L' = [[(bf, .cells (A ++ f'.l ++ B).toArray 58 (0, 0))], X'] ∧ Q p.fs[j] f' v X')) :
    Ctr Try.prog 56 [.pointer (some ⟨b, 0, none⟩), .int .i64 page, dv] [H, X] ro (fun v L' => (mget p.tbl page = none ∧ v = .int .i64 6 ∧ L' = [H, X]) ∨
      ∃ (j : Nat) (_ : j < p.fs.length) (f' : Fr) (X' H' : HL), mget p.tbl page = some (j : Int) ∧ Q p.fs[j] f' v X' ∧ L' = [H', X'] ∧ PtAt (p.setF j f') b H') := by
  have hF := Find_spec p b H hp page
  cases hg : mget p.tbl page with
  | none =>
    rw [hg] at hF
    refine Ctr.enter (n := 25) [.tmp 6] [(0, _), (1, _), (2, _)] Try.func56 rfl rfl rfl (lb rfl) Try.call56 ⟨rfl, rfl, rfl, trivial⟩ ?_
    intro cx fin fin0
    refine aG ?_
    refine aC (o := hF) (h := ?_)
    rintro _ _ ⟨rfl, rfl⟩
    refine aG ?_
    refine aT ?_ (hb := by rfl)
    refine W.ret (fin _ _ (FinOk.first 2 (.tmp rfl .nil) rfl ?_))
    exact .inl ⟨rfl, rfl, rfl⟩
  | some i =>
    obtain ⟨j, hj, rfl, hu, hpg⟩ := hi.tbl page i hg
    rw [hg] at hF
    have hsp := flat_split hj
    have hset := fun f' => flat_set hj f'
    have hA : (flat (p.fs.take j)).length = 0 + j * 37 := by rw [take_flat_len hi.ok.1 (Nat.le_of_lt hj)]; omega
    have hD := hdo j hj (flat (p.fs.take j)) (flat (p.fs.drop (j + 1)))
    obtain ⟨f, hfe⟩ : ∃ f, p.fs[j] = f := ⟨_, rfl⟩
    rw [hfe] at hsp hD
    obtain ⟨bf, bm, es, clock, rfl, hm⟩ := hp
    refine Ctr.enter (n := 25) [.tmp 6] [(0, _), (1, _), (2, _)] Try.func56 rfl rfl rfl (lb rfl) Try.call56 ⟨rfl, rfl, rfl, trivial⟩ ?_
    intro cx fin fin0
    refine aG ?_
    refine aC (o := hF) (h := ?_)
    rintro _ _ ⟨rfl, rfl⟩
    refine aG ?_
    refine aF ?_ (hb := by rfl)
    refine W.split 0 rfl ?_
    refine aG ?_
    repeat (first | refine gw ?_ | refine gN fun _ => ?_ | refine gB fun _ => ?_ | fail)
    refine aV (OpVal.ixSl tab_ok rfl rfl rfl rfl rfl hj) ?_
    rw [hsp]
    refine aCV (o := hD bf _ hA) (h := ?_)
    rintro _ _ ⟨f', X', rfl, hq⟩
    refine aG ?_
    rw [← hset]
    refine W.group [2, 0, 1] rfl rfl ?_
    refine W.ret (fin _ _ (FinOk.first 2 (.tmp rfl .nil) rfl ?_))
    refine .inr ⟨j, hj, f', X', _, rfl, by rw [hfe]; exact hq, rfl, bf, bm, es, clock, ?_, hm⟩
    simp [Pt.setF]
/-- The frame of a page, turned by 'g', or not there. -/
def Pt.doPage (p : Pt) (page : Int) (g : Fr → Fr × Int) : Pt × Int := match mget p.tbl page with
  | some i => (p.setF i.toNat (g (p.at_ i)).1, (g (p.at_ i)).2)
  | none => (p, 6)
theorem Pt.doPage_some {p : Pt} {page : Int} {g : Fr → Fr × Int} {j : Nat} (h : j < p.fs.length) (hg : mget p.tbl page = some (j : Int)) : p.doPage page g = (p.setF j (g p.fs[j]).1, (g p.fs[j]).2) := by
  unfold Pt.doPage
  rw [hg]
  simp only [Pt.at_nat h, Int.toNat_natCast]
theorem Pt.doPage_none {p : Pt} {page : Int} {g : Fr → Fr × Int} (hg : mget p.tbl page = none) : p.doPage page g = (p, 6) := by
  unfold Pt.doPage
  rw [hg]
theorem PPin_spec (p : Pt) (hi : p.Inv) (b : Nat) (H : HL) (hp : PtAt p b H) (page : Int) :
    Ctr Try.prog 35 [.pointer (some ⟨b, 0, none⟩), .int .i64 page] [H] [] (fun v L' => v = .int .i64 (p.doPage page Fr.pin).2 ∧ ∃ H', L' = [H'] ∧ PtAt (p.doPage page Fr.pin).1 b H') := by
  have hO := of_spec p hi b H hp page (.func (.methodOf 103 "Pin") #[] #[]) [] [] (fun f f' v X' => v = .int .i64 f.pin.2 ∧ f' = f.pin.1 ∧ X' = []) (fun j hj A B bf off hA => by
    refine ⟨_, _, fun w => pin_method bf off w, ?_⟩
    have h1 := Pin_spec p.fs[j] (hi.good _ (List.getElem_mem hj)).2.1 A B bf off 58 hA
    exact (h1.frame [[]]).post fun v L' ⟨L1, e1, e2, e3⟩ => ⟨_, [], by rw [e1, e3]; rfl, e2, rfl, rfl⟩)
  refine Ctr.enter (n := 9) [.tmp 4] [(0, _), (1, _)] Try.func35 rfl rfl rfl (lb rfl) Try.call35 ⟨rfl, rfl, trivial⟩ ?_
  intro cx fin fin0
  refine aG ?_
  refine W.nilChunk ?_
  refine aC (o := hO) (h := ?_)
  rintro _ _ (⟨h1, rfl, rfl⟩ | ⟨j, hj, f', X', H', h1, ⟨rfl, rfl, rfl⟩, rfl, hp'⟩)
  · refine aG ?_
    refine W.ret (fin _ _ (FinOk.first 1 (.tmp rfl .nil) rfl ?_))
    rw [Pt.doPage_none h1]
    exact ⟨rfl, _, rfl, hp⟩
  · refine aG ?_
    refine W.ret (fin _ _ (FinOk.first 1 (.tmp rfl .nil) rfl ?_))
    rw [Pt.doPage_some hj h1]
    exact ⟨rfl, _, rfl, hp'⟩
theorem PUnpin_spec (p : Pt) (hi : p.Inv) (b : Nat) (H : HL) (hp : PtAt p b H) (page : Int) :
    Ctr Try.prog 65 [.pointer (some ⟨b, 0, none⟩), .int .i64 page] [H] [] (fun v L' => v = .int .i64 (p.doPage page Fr.unpin).2 ∧ ∃ H', L' = [H'] ∧ PtAt (p.doPage page Fr.unpin).1 b H') := by
  have hO := of_spec p hi b H hp page (.func (.methodOf 103 "Unpin") #[] #[]) [] [] (fun f f' v X' => v = .int .i64 f.unpin.2 ∧ f' = f.unpin.1 ∧ X' = []) (fun j hj A B bf off hA => by
    refine ⟨_, _, fun w => unpin_method bf off w, ?_⟩
    have h1 := Unpin_spec p.fs[j] ⟨(hi.good _ (List.getElem_mem hj)).2.1, (hi.good _ (List.getElem_mem hj)).2.2.1⟩ A B bf off 58 hA
    exact (h1.frame [[]]).post fun v L' ⟨L1, e1, e2, e3⟩ => ⟨_, [], by rw [e1, e3]; rfl, e2, rfl, rfl⟩)
  refine Ctr.enter (n := 9) [.tmp 4] [(0, _), (1, _)] Try.func65 rfl rfl rfl (lb rfl) Try.call65 ⟨rfl, rfl, trivial⟩ ?_
  intro cx fin fin0
  refine aG ?_
  refine W.nilChunk ?_
  refine aC (o := hO) (h := ?_)
  rintro _ _ (⟨h1, rfl, rfl⟩ | ⟨j, hj, f', X', H', h1, ⟨rfl, rfl, rfl⟩, rfl, hp'⟩)
  · refine aG ?_
    refine W.ret (fin _ _ (FinOk.first 1 (.tmp rfl .nil) rfl ?_))
    rw [Pt.doPage_none h1]
    exact ⟨rfl, _, rfl, hp⟩
  · refine aG ?_
    refine W.ret (fin _ _ (FinOk.first 1 (.tmp rfl .nil) rfl ?_))
    rw [Pt.doPage_some hj h1]
    exact ⟨rfl, _, rfl, hp'⟩
theorem PGet1_spec (f : Fr) (hf : f.Ok) (A B : List Value) (bf o : Nat) (hA : A.length = o) (off n : Int) (ho : -9223372036854775808 ≤ off ∧ off ≤ 9223372036854775807) (b6 b7 bx : Nat) :
    Ctr Try.prog 84 [.pointer (some ⟨bf, o, none⟩), .pointer (some ⟨b6, 0, none⟩), .pointer (some ⟨b7, 0, none⟩), .pointer (some ⟨bx, 0, none⟩)]
      [[(bf, .cells (A ++ f.l ++ B).toArray 58 (0, 0))], [(bx, .cells #[.slice none 0 0] 23 (0, 0))]] [(b6, .cells #[.int .i64 off] 3 (0, 0)), (b7, .cells #[.int .i64 n] 3 (0, 0))]
      (fun v L' => ∃ a len cap H, v = .int .i64 (f.get off n).2.2 ∧ L' = [[(bf, .cells (A ++ (f.get off n).1.l ++ B).toArray 58 (0, 0))], (bx, .cells #[.slice a len cap] 23 (0, 0)) :: H] ∧
        RoSl 1 (u8s (f.get off n).2.1) a len H ∧ (f.get off n).2.1.length = len) := by
  have hG := FGet_spec f hf A B bf o 58 hA off n ho
  refine Ctr.enter (n := 17) [.tmp 5] [(0, _), (1, _), (2, _), (3, _)] Try.func84 rfl rfl rfl (lb rfl) Try.call84 ⟨rfl, rfl, rfl, rfl, trivial⟩ ?_
  intro cx fin fin0
  refine aG ?_
  repeat (first | refine gw ?_ | refine gN fun _ => ?_ | refine gB fun _ => ?_ | fail)
  refine aC (o := hG) (h := ?_)
  rintro _ _ ⟨a, len, cap, H, rfl, rfl, h1, h2⟩
  refine aG ?_
  repeat (first | refine gw ?_ | refine gN fun _ => ?_ | refine gB fun _ => ?_ | fail)
  refine W.groupV [2, 1] rfl ?_
  refine W.order [1, 0] rfl ?_
  refine W.ret (fin _ _ (FinOk.first 2 (.tmp rfl .nil) rfl ?_))
  exact ⟨a, len, cap, H, rfl, rfl, h1, h2⟩
def Pt.get (p : Pt) (page off n : Int) : Pt × List Int × Int := match mget p.tbl page with
  | some i => (p.setF i.toNat ((p.at_ i).get off n).1, ((p.at_ i).get off n).2)
  | none => (p, [], 6)
theorem Pt.get_some {p : Pt} {page off n : Int} {j : Nat} (h : j < p.fs.length) (hg : mget p.tbl page = some (j : Int)) : p.get page off n = (p.setF j (p.fs[j].get off n).1, (p.fs[j].get off n).2) := by
  unfold Pt.get
  rw [hg]
  simp only [Pt.at_nat h, Int.toNat_natCast]
theorem Pt.get_none {p : Pt} {page off n : Int} (hg : mget p.tbl page = none) : p.get page off n = (p, [], 6) := by
  unfold Pt.get
  rw [hg]
theorem PGet_spec (p : Pt) (hi : p.Inv) (b : Nat) (H : HL) (hp : PtAt p b H) (page off n : Int) (ho : -9223372036854775808 ≤ off ∧ off ≤ 9223372036854775807) :
    Ctr Try.prog 60 [.pointer (some ⟨b, 0, none⟩), .int .i64 page, .int .i64 off, .int .i64 n] [H] [] (fun v L' => ∃ a len cap H' Hs, v = .tuple #[.slice a len cap, .int .i64 (p.get page off n).2.2] ∧
      L' = [H', Hs] ∧ PtAt (p.get page off n).1 b H' ∧ RoSl 1 (u8s (p.get page off n).2.1) a len Hs ∧ (p.get page off n).2.1.length = len) := by
  have hO := fun b6 b7 bx => of_spec p hi b H hp page (.func (.func 84) #[] #[.pointer (some ⟨b6, 0, none⟩), .pointer (some ⟨b7, 0, none⟩), .pointer (some ⟨bx, 0, none⟩)]) [(bx, .cells #[.slice none 0 0] 23 (0, 0))]
    [(b6, .cells #[.int .i64 off] 3 (0, 0)), (b7, .cells #[.int .i64 n] 3 (0, 0))]
    (fun f f' v X' => ∃ a len cap H, v = .int .i64 (f.get off n).2.2 ∧ f' = (f.get off n).1 ∧ X' = (bx, .cells #[.slice a len cap] 23 (0, 0)) :: H ∧ RoSl 1 (u8s (f.get off n).2.1) a len H ∧ (f.get off n).2.1.length = len) (fun j hj A B bf o hA => by
      have h1 := PGet1_spec p.fs[j] (hi.ok.1 _ (List.getElem_mem hj)) A B bf o hA off n ho b6 b7 bx
      refine (h1.post ?_).v (fst := []) (cap := [_, _, _]) rfl
      rintro v L' ⟨a, len, cap, H, e1, e2, e3, e4⟩
      exact ⟨_, _, e2, a, len, cap, H, e1, rfl, rfl, e3, e4⟩)
  have hnil : RoSl 1 (u8s []) none 0 [] := ⟨rfl, .inl ⟨rfl, rfl⟩⟩
  refine Ctr.enter (n := 18) [.tmp 8, .tmp 9] [(0, _), (1, _), (2, _), (3, _)] Try.func60 rfl rfl rfl (lb rfl) Try.call60 ⟨rfl, rfl, rfl, rfl, trivial⟩ ?_
  intro cx fin fin0
  refine aG ?_
  repeat (first | refine gw ?_ | refine gN fun _ => ?_ | refine gB fun _ => ?_ | fail)
  refine aC (o := hO _ _ _) (h := ?_)
  rintro _ _ (⟨h1, rfl, rfl⟩ | ⟨j, hj, f', X', H', h1, ⟨a, len, cap, Hs, rfl, rfl, rfl, h2, h3⟩, rfl, hp'⟩)
  · refine aG ?_
    repeat (first | refine gw ?_ | refine gN fun _ => ?_ | refine gB fun _ => ?_ | fail)
    refine W.nilChunk ?_
    refine W.order [1, 0] rfl ?_
    refine W.ret (fin _ _ (FinOk.first 2 (.tmp rfl (.tmp rfl .nil)) rfl ?_))
    rw [Pt.get_none h1]
    exact ⟨none, 0, 0, _, [], rfl, rfl, hp, hnil, rfl⟩
  · refine aG ?_
    refine W.splitN 1 1 rfl ?_
    refine aG ?_
    repeat (first | refine gw ?_ | refine gN fun _ => ?_ | refine gB fun _ => ?_ | fail)
    refine W.order [0, 1] rfl ?_
    refine W.ret (fin _ _ (FinOk.first 2 (.tmp rfl (.tmp rfl .nil)) rfl ?_))
    rw [Pt.get_some hj h1]
    exact ⟨a, len, cap, _, _, rfl, rfl, hp', h2, h3⟩
theorem PPut1_spec (f : Fr) (hf : f.Ok) (A B : List Value) (bf o : Nat) (hA : A.length = o) (off : Int) (ho : -9223372036854775808 ≤ off ∧ off ≤ 9223372036854775807) (bs : List Int) (ab : Option Addr) (cb : Nat) (rb : HL) (hrb : RoSl 1 (u8s bs) ab bs.length rb) (b6 b7 : Nat) :
    Ctr Try.prog 86 [.pointer (some ⟨bf, o, none⟩), .pointer (some ⟨b6, 0, none⟩), .pointer (some ⟨b7, 0, none⟩)]
      [[(bf, .cells (A ++ f.l ++ B).toArray 58 (0, 0))]] ((b6, .cells #[.int .i64 off] 3 (0, 0)) :: (b7, .cells #[.slice ab bs.length cb] 23 (0, 0)) :: rb)
      (fun v L' => v = .int .i64 (f.put off bs).2 ∧ L' = [[(bf, .cells (A ++ (f.put off bs).1.l ++ B).toArray 58 (0, 0))]]) := by
  have hP := FPut_spec f hf A B bf o 58 hA off ho bs ab cb rb hrb
  refine Ctr.enter (n := 9) [.tmp 4] [(0, _), (1, _), (2, _)] Try.func86 rfl rfl rfl (lb rfl) Try.call86 ⟨rfl, rfl, rfl, trivial⟩ ?_
  intro cx fin fin0
  refine aG ?_
  refine aV (OpVal.load tab_ok rfl (at_ro 0 rfl) rfl) ?_
  refine aV (OpVal.load tab_ok rfl (at_ro 1 rfl) rfl) ?_
  refine aC (o := hP) (h := ?_) (hro := RoIn.all (fun p hp => by simp [hp]))
  rintro _ _ ⟨rfl, rfl⟩
  refine aG ?_
  refine W.ret (fin _ _ (FinOk.first 1 (.tmp rfl .nil) rfl ?_))
  exact ⟨rfl, rfl⟩
theorem PPut_spec (p : Pt) (hi : p.Inv) (b : Nat) (H : HL) (hp : PtAt p b H) (page off : Int) (ho : -9223372036854775808 ≤ off ∧ off ≤ 9223372036854775807) (bs : List Int) (ab : Option Addr) (cb : Nat) (rb : HL) (hrb : RoSl 1 (u8s bs) ab bs.length rb) :
    Ctr Try.prog 63 [.pointer (some ⟨b, 0, none⟩), .int .i64 page, .int .i64 off, .slice ab bs.length cb] [H] rb (fun v L' => v = .int .i64 (p.doPage page (fun f => f.put off bs)).2 ∧ ∃ H', L' = [H'] ∧ PtAt (p.doPage page (fun f => f.put off bs)).1 b H') := by
  have hO := fun b6 b7 => of_spec p hi b H hp page (.func (.func 86) #[] #[.pointer (some ⟨b6, 0, none⟩), .pointer (some ⟨b7, 0, none⟩)]) []
    ((b6, .cells #[.int .i64 off] 3 (0, 0)) :: (b7, .cells #[.slice ab bs.length cb] 23 (0, 0)) :: rb)
    (fun f f' v X' => v = .int .i64 (f.put off bs).2 ∧ f' = (f.put off bs).1 ∧ X' = []) (fun j hj A B bf o hA => by
      have h1 := PPut1_spec p.fs[j] (hi.ok.1 _ (List.getElem_mem hj)) A B bf o hA off ho bs ab cb rb hrb b6 b7
      refine ((h1.frame [[]]).post ?_).v (fst := []) (cap := [_, _]) rfl
      rintro v L' ⟨L1, e1, e2, e3⟩
      exact ⟨_, [], by rw [e1, e3]; rfl, e2, rfl, rfl⟩)
  refine Ctr.enter (n := 13) [.tmp 8] [(0, _), (1, _), (2, _), (3, _)] Try.func63 rfl rfl rfl (lb rfl) Try.call63 ⟨rfl, rfl, rfl, rfl, trivial⟩ ?_
  intro cx fin fin0
  refine aG ?_
  repeat (first | refine gw ?_ | refine gN fun _ => ?_ | refine gB fun _ => ?_ | fail)
  refine W.nilChunk ?_
  refine aC (o := hO _ _) (h := ?_) (hro := by exact RoIn.cons (at_own 1 rfl) (RoIn.cons (at_own 0 rfl) (RoIn.all (fun p hp => hp))))
  rintro _ _ (⟨h1, rfl, rfl⟩ | ⟨j, hj, f', X', H', h1, ⟨rfl, rfl, rfl⟩, rfl, hp'⟩)
  · refine aG ?_
    refine W.ret (fin _ _ (FinOk.first 1 (.tmp rfl .nil) rfl ?_))
    rw [Pt.doPage_none h1]
    exact ⟨rfl, _, rfl, hp⟩
  · refine aG ?_
    refine W.ret (fin _ _ (FinOk.first 1 (.tmp rfl .nil) rfl ?_))
    rw [Pt.doPage_some hj h1]
    exact ⟨rfl, _, rfl, hp'⟩
end Go.Proofs.Ytgipjpiiomgjjaa
