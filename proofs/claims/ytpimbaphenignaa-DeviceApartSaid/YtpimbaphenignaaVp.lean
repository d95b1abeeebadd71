/-
  The device of the document: Turn, New.
-/
import Derived.Test.YtpimbaphenignaaVo
namespace Go.Proofs.Ytpimbaphenignaa
open Go Go.Sl Go.IntWalk
set_option maxHeartbeats 8000000
set_option maxRecDepth 20000
set_option linter.unusedVariables false
theorem cl_own {D : HL} {b : Nat} {lx : List Value} {e : Nat} {fr : Nat × Nat} {c : Nat} {xs : List Int} (hl : xs.length ≤ lx.length) (ht : lx.take xs.length = u8s xs) (hc : xs.length ≤ c) :
    ClIn ([(b, Obj.cells lx.toArray e fr)] ++ D) ⟨some ⟨b, 0, none⟩, c, xs⟩ :=
  ⟨hc, _, ⟨by rw [u8s_len, Nat.mul_one], .inr ⟨b, 0, lx, e, fr, rfl, rfl, by show 0 + xs.length * 1 ≤ lx.length; omega, by show (lx.drop 0).take (xs.length * 1) = u8s xs; rw [List.drop_zero, Nat.mul_one]; exact ht⟩⟩, fun q hq => List.mem_append_left _ hq⟩
theorem RTurn_spec (d : Dv) (hd : d.Ok) (v : Value) (D : HL) (h : DocD d v D) (i place : Int) (by_ : Nat) (hby : by_ < 256) :
    Ctr Try.prog 45 [v, .int .i64 i, .int .i64 place, .int .u8 (by_ : Int)] [] D (DocE D (d.turn i place by_)) := by
  obtain ⟨a, c, at_, ct, ah, ch, rfl, h2, h3, h4⟩ := h
  have hop : d.turn i place by_ = d.turn i place by_ := rfl
  conv at hop => rhs; unfold Dv.turn
  generalize d.turn i place by_ = out at *
  by_cases h0 : i < 0
  · rw [if_neg (by unfold Dv.in_; omega)] at hop
    subst hop
    refine Ctr.enter (n := 51) [.cell 8 53, .tmp 9] [(0, _), (1, _), (2, _), (3, _)] Try.func45 rfl rfl rfl (lb rfl) Try.call45 ⟨rfl, rfl, rfl, rfl, trivial⟩ ?_
    intro cx fin fin0
    refine aG ?_
    repeat (first | refine gh h0 ?_ | refine gN fun _ => ?_ | refine gB fun _ => ?_ | fail)
    refine W.nilChunk ?_
    refine W.ret (fin _ _ (FinOk.first 1 (aRc (.tmp rfl .nil)) rfl ?_))
    exact ⟨_, [], rfl, rfl, a, c, at_, ct, ah, ch, rfl, h2, h3, h4⟩
  · by_cases h1 : i ≥ (d.lasts.length : Int)
    · rw [if_neg (by unfold Dv.in_; omega)] at hop
      subst hop
      refine Ctr.enter (n := 51) [.cell 8 53, .tmp 9] [(0, _), (1, _), (2, _), (3, _)] Try.func45 rfl rfl rfl (lb rfl) Try.call45 ⟨rfl, rfl, rfl, rfl, trivial⟩ ?_
      intro cx fin fin0
      refine aG ?_
      repeat (first | refine gh (gc2 h0 h1) ?_ | refine gN fun _ => ?_ | refine gB fun _ => ?_ | fail)
      refine W.nilChunk ?_
      refine W.ret (fin _ _ (FinOk.first 1 (aRc (.tmp rfl .nil)) rfl ?_))
      exact ⟨_, [], rfl, rfl, a, c, at_, ct, ah, ch, rfl, h2, h3, h4⟩
    · by_cases p0 : place < 0
      · rw [if_neg (by omega)] at hop
        subst hop
        refine Ctr.enter (n := 51) [.cell 8 53, .tmp 9] [(0, _), (1, _), (2, _), (3, _)] Try.func45 rfl rfl rfl (lb rfl) Try.call45 ⟨rfl, rfl, rfl, rfl, trivial⟩ ?_
        intro cx fin fin0
        refine aG ?_
        repeat (first | refine gh (gc3 h0 h1 p0) ?_ | refine gN fun _ => ?_ | refine gB fun _ => ?_ | fail)
        refine W.nilChunk ?_
        refine W.ret (fin _ _ (FinOk.first 1 (aRc (.tmp rfl .nil)) rfl ?_))
        exact ⟨_, [], rfl, rfl, a, c, at_, ct, ah, ch, rfl, h2, h3, h4⟩
      · by_cases p1 : place > 19
        · rw [if_neg (by omega)] at hop
          subst hop
          refine Ctr.enter (n := 51) [.cell 8 53, .tmp 9] [(0, _), (1, _), (2, _), (3, _)] Try.func45 rfl rfl rfl (lb rfl) Try.call45 ⟨rfl, rfl, rfl, rfl, trivial⟩ ?_
          intro cx fin fin0
          refine aG ?_
          repeat (first | refine gh (gc4 h0 h1 p0 p1) ?_ | refine gN fun _ => ?_ | refine gB fun _ => ?_ | fail)
          refine W.nilChunk ?_
          refine W.ret (fin _ _ (FinOk.first 1 (aRc (.tmp rfl .nil)) rfl ?_))
          exact ⟨_, [], rfl, rfl, a, c, at_, ct, ah, ch, rfl, h2, h3, h4⟩
        · have hi : d.in_ i := ⟨by omega, by omega⟩
          rw [if_pos ⟨hi, by omega, by omega⟩] at hop
          subst hop
          obtain ⟨h20, hu⟩ := hd.last hi
          obtain ⟨j, rfl⟩ : ∃ j : Nat, i = (j : Int) := ⟨i.toNat, by omega⟩
          obtain ⟨pl, rfl⟩ : ∃ pl : Nat, place = (pl : Int) := ⟨place.toNat, by omega⟩
          have hj : j < d.lasts.length := by omega
          obtain ⟨bx, ox, lx, ex, frx, cc, rfl, hmem, l0, hcx, h5, r, h6, h7⟩ := h2.at_ hj
          have hla : d.last (j : Int) = cc.xs := by
            unfold Dv.last
            rw [Int.toNat_natCast, List.getD_eq_getElem?_getD, List.getElem?_eq_getElem hj, Option.getD_some, hcx]
          rw [hla] at h20 hu ⊢
          have hpl : pl < cc.xs.length := by omega
          have hfl : flipB cc.xs (pl : Int) by_ = cc.xs.set pl (((cc.xs[pl]).toNat ^^^ by_ : Nat) : Int) := by
            unfold flipB
            rw [Int.toNat_natCast, List.getD_eq_getElem?_getD, List.getElem?_eq_getElem hpl, Option.getD_some]
          have hcx' := hu _ (List.getElem_mem hpl)
          obtain ⟨x, hx⟩ : ∃ x : Nat, cc.xs[pl] = (x : Int) := ⟨cc.xs[pl].toNat, by omega⟩
          rw [hx] at hcx'
          rw [hx, Int.toNat_natCast] at hfl
          have hxb : x ^^^ by_ < 256 := Nat.xor_lt_two_pow (n := 8) (by omega) hby
          have hfo := flipB_ok hu (pl : Int) hby
          have hf20 : (flipB cc.xs (pl : Int) by_).length = 20 := by rw [flipB_len, h20]
          have hF := Few_spec cc.xs cc.a cc.cap h5 r h6 20 (by decide) (by decide)
          have htk : cc.xs.take (20 : Int).toNat = cc.xs := List.take_of_length_le (by rw [h20]; decide)
          rw [htk, h20] at hF
          have hv : ∀ b c3, Cl.v ⟨some ⟨b, 0, none⟩, c3, flipB cc.xs (pl : Int) by_⟩ = .slice (some ⟨b, 0, none⟩) 20 c3 := fun b c3 => by unfold Cl.v; rw [hf20]
          have hW := fun b c3 H2 hc => With_spec d.lasts hd.n.2 (some ⟨bx, ox, none⟩) c (H2 ++ D) (h2.mono fun q hq => List.mem_append_right _ hq) j hj ⟨some ⟨b, 0, none⟩, c3, flipB cc.xs (pl : Int) by_⟩ hc
          have hl0 : Cl.v cc = .slice cc.a 20 cc.cap := by unfold Cl.v; rw [h20]
          rw [hl0] at l0
          have p2 : ¬ (pl : Int) > 19 := p1
          refine Ctr.enter (n := 51) [.cell 8 53, .tmp 9] [(0, _), (1, _), (2, _), (3, _)] Try.func45 rfl rfl rfl (lb rfl) Try.call45 ⟨rfl, rfl, rfl, rfl, trivial⟩ ?_
          intro cx fin fin0
          refine aG ?_
          repeat (first | refine gh (gc4 h0 h1 p0 p1) ?_ | refine gN fun _ => ?_ | refine gB fun _ => ?_ | fail)
          refine aV (OpVal.ixI tab_ok rfl rfl rfl rfl rfl hj) ?_
          refine aV (OpVal.load tab_ok rfl (show At _ _ bx (.cells lx.toArray ex frx) from .inr hmem) l0) ?_
          refine aC (o := hF) (h := ?_) (hro := RoIn.all (fun q hq => h7 q hq))
          rintro _ _ ⟨a3, c3, H3, rfl, rfl, ho⟩
          refine aG ?_
          obtain ⟨b5, ly, rfl, rfl, hc, hlen, ht⟩ := ho.some (by decide)
          rw [Nat.mul_one] at hlen ht
          have hply : pl < ly.length := by omega
          have l1 : ly[0 + pl * 1]? = some (.int .u8 (x : Int)) := by
            have e := congrArg (·[pl]?) ht
            simp only [List.getElem?_take, if_pos (show pl < 20 by omega), u8s_map, List.getElem?_map, List.getElem?_eq_getElem hpl, Option.map_some, hx] at e
            rw [Nat.mul_one, Nat.zero_add]
            exact e
          have q1 : (flipB cc.xs (pl : Int) by_).length ≤ (ly.set pl (.int .u8 ((x ^^^ by_ : Nat) : Int))).length := by rw [List.length_set, hf20]; omega
          have q2 : (flipB cc.xs (pl : Int) by_).length ≤ c3 := by omega
          have ht2 : (ly.set pl (.int .u8 ((x ^^^ by_ : Nat) : Int))).take 20 = u8s (flipB cc.xs (pl : Int) by_) := by
            rw [List.take_set, ht, u8s_set, hfl]
          repeat (first | refine gx ?_ | refine gN fun _ => ?_ | refine gB fun _ => ?_ | fail)
          refine aV (OpVal.ixI tab_ok rfl rfl rfl rfl rfl (show pl < 20 by omega)) ?_
          refine aV (OpVal.load tab_ok rfl (at_own 0 rfl) l1) ?_
          repeat (first | refine gx ?_ | refine gN fun _ => ?_ | refine gB fun _ => ?_ | fail)
          refine aV (OpVal.bitsN (a := x) (b := by_) (r := x ^^^ by_) rfl rfl rfl rfl (show x < 256 by omega) hby (u8n hxb).symm (.inl ⟨rfl, rfl⟩)) ?_
          refine aV (OpVal.ixI tab_ok rfl rfl rfl rfl rfl (show pl < 20 by omega)) ?_
          refine W.store tab_ok rfl Upd.here rfl rfl rfl rfl rfl (splice_set hply _) (aG ?_)
          repeat (first | refine gx ?_ | refine gN fun _ => ?_ | refine gB fun _ => ?_ | fail)
          rw [← hv]
          refine aC (o := hW b5 c3 _ (cl_own q1 (by rw [hf20]; exact ht2) q2)) (h := ?_) (hro := RoIn.append (RoIn.own 0 rfl) (RoIn.all fun q hq => by simp [hq]))
          rintro _ _ ⟨a6, c6, H6, rfl, rfl, hl6⟩
          refine aG ?_
          repeat (first | refine gx ?_ | refine gN fun _ => ?_ | refine gB fun _ => ?_ | fail)
          refine W.groupV [0, 0] rfl ?_
          refine W.ret (fin _ _ (FinOk.first 1 (aRc (.tmp rfl .nil)) rfl ?_))
          exact ⟨_, _, rfl, rfl, a6, c6, at_, ct, ah, ch, rfl, hl6.mono fun q hq => by simpa [List.append_assoc] using hq, h3.mono fun q hq => List.mem_append_right _ hq, h4.mono fun q hq => List.mem_append_right _ hq⟩
theorem clsV_snoc (l : List Cl) (c : Cl) : clsV (l ++ [c]) = clsV l ++ [c.v] := by simp [clsV]
theorem RNew_spec (n : Nat) (hn : n ≤ 1024) : Ctr Try.prog 25 [.int .i64 (n : Int)] [] [] (fun v L' => ∃ H, L' = [H] ∧ DocD (Dv.new n) v H) := by
  have hz16 : u8ok (List.replicate 16 0) := z16_ok
  have hP := fun b => RPut_spec (List.replicate 16 0) hz16 (some ⟨b, 0, none⟩) 16 [(b, .cells (u8s (List.replicate 16 0)).toArray 5 (0, 0))] (roOwn b _ _) (by decide)
  have hz20 : (sealB (List.replicate 16 0)).length = 20 := zcell_len
  have e16 : repL 16 [Value.int .u8 0] = u8s (List.replicate 16 0) := rfl
  have hzc : sealB (List.replicate 16 0) = zcell := rfl
  rw [hz20] at hP
  rw [hzc] at hP
  refine Ctr.enter (n := 23) [.cell 2 53] [(0, _)] Try.func25 rfl rfl rfl (lb rfl) Try.call25 ⟨rfl, trivial⟩ ?_
  intro cx fin fin0
  refine aG ?_
  repeat (first | refine gx ?_ | refine gN fun _ => ?_ | refine gB fun _ => ?_ | fail)
  rename_i b2 b3
  refine W.nilChunk ?_
  refine W.nilChunk ?_
  refine W.nilChunk ?_
  refine aLp (fun q ρ1 L1 => ∃ (j : Nat) (al : Option Addr) (cl : Nat) (at_ : Option Addr) (ct : Nat) (Hl Ht HD : HL) (cls : List Cl), j ≤ n ∧ q = n - j ∧ Own 1 30 (clsV cls) al j cl Hl ∧ Own 1 30 (clsV (List.replicate j ⟨none, 0, []⟩)) at_ j ct Ht ∧ cls.map Cl.xs = List.replicate j zcell ∧ (∀ c ∈ cls, ClIn HD c) ∧ ρ1 = [(4, .int .i64 (j : Int)), (3, .pointer (some ⟨b3, 0, none⟩)), (2, .pointer (some ⟨b2, 0, none⟩)), (0, .int .i64 (n : Int))] ∧ L1 = [Hl, Ht, HD, [(b3, .cells #[.slice al j cl, .slice at_ j ct, .slice none 0 0] 53 (0, 0))], [(b2, .cells #[.slice none 0 0, .slice none 0 0, .slice none 0 0] 53 (0, 0))]]) (o := ⟨0, none, 0, none, 0, [], [], [], [], Nat.zero_le _, rfl, Own.nil 1 _, Own.nil 1 _, rfl, (by intro c hc; cases hc), rfl, rfl⟩) (h := ?_)
  rintro q ρ1 L1 ⟨j, al, cl, at_, ct, Hl, Ht, HD, cls, hj, rfl, how, hot, hcls, hin, rfl, rfl⟩
  refine aG ?_
  by_cases hlt : j < n
  · have hz : (j : Int) < (n : Int) := by omega
    repeat (first | refine gh hz ?_ | refine gN fun _ => ?_ | refine gB fun _ => ?_ | fail)
    refine W.drawH tab_ok 5 [.b false, .b false, .b true, .b true, .b true] [] follows (by decide +kernel) (by decide +kernel) rfl (by decide) rfl ?_
    intro _
    refine dG ?_
    repeat (first | refine dL ?_ | refine dS ?_ | (first | refine dGo ?_ | refine dSk ?_ | refine dUn ?_ | fail) | (first | refine dPT ?_ | refine dPF ?_ | fail) | refine dV (OpVal.add rfl rfl (i64_in _ (by omega))) ?_ | refine dV (OpVal.sub rfl rfl (i64_in _ (by omega))) ?_ | refine dV (OpVal.neBool tab_ok rfl rfl rfl) ?_ | refine dV (OpVal.eqBool tab_ok rfl rfl rfl) ?_ | refine dV (OpVal.eqNil tab_ok rfl rfl rfl) ?_ | refine dV (OpVal.neNil tab_ok rfl rfl rfl) ?_ | fail)
    refine dW (NewOf.mks (bytes := 1) (len := 16) (cap := 16) tab_ok rfl rfl rfl rfl rfl rfl rfl rfl rfl (Nat.le_refl _) (by decide) (by decide)) ?_
    intro b4
    rw [e16]
    refine dG ?_
    refine dC (o := hP b4) (h := ?_) (hro := RoIn.own 0 rfl)
    rintro _ _ ⟨a5, c5, H5, rfl, rfl, ho5⟩
    refine dG ?_
    refine dSl (ps := [_]) ?_
    intro bt
    refine dG ?_
    refine WD.nil (W.dropNil (aG ?_))
    refine aAp (how) ?_
    rintro _ _ ⟨_, _, _, rfl, rfl, ho⟩
    refine aG ?_
    have hc5 : ClIn (H5 ++ HD) ⟨a5, c5, zcell⟩ := ⟨by rcases ho5.2 with ⟨_, h0, _⟩ | ⟨_, _, _, _, h0, _⟩ <;> (show zcell.length ≤ c5; rw [zcell_len]; omega), H5, by have := Own.roSl ho5; rw [← zcell_len] at this; exact this, fun q hq => List.mem_append_left _ hq⟩
    have ho2 := ho
    clear ho
    repeat (first | refine gx ?_ | refine gN fun _ => ?_ | refine gB fun _ => ?_ | fail)
    refine aSl (ps := [_]) ?_
    intro bu
    refine aG ?_
    refine aAp (hot) ?_
    rintro _ _ ⟨_, _, _, rfl, rfl, ho⟩
    refine aG ?_
    have e1 : clsV (List.replicate j ⟨none, 0, []⟩) ++ [.slice none 0 0] = clsV (List.replicate (j + 1) ⟨none, 0, []⟩) := by rw [List.replicate_succ', clsV_snoc]; rfl
    have e2 : clsV cls ++ [.slice a5 20 c5] = clsV (cls ++ [(⟨a5, c5, zcell⟩ : Cl)]) := by rw [clsV_snoc]; unfold Cl.v; rw [zcell_len]
    rw [e1] at ho
    rw [e2] at ho2
    have e3 : (cls ++ [(⟨a5, c5, zcell⟩ : Cl)]).map Cl.xs = List.replicate (j + 1) zcell := by rw [List.map_append, hcls, List.replicate_succ']; rfl
    have hin2 : ∀ c ∈ cls ++ [(⟨a5, c5, zcell⟩ : Cl)], ClIn (H5 ++ HD) c := fun c hc => (List.mem_append.1 hc).elim (fun h => (hin c h).mono fun q hq => List.mem_append_right _ hq) (fun h => by rw [List.mem_singleton.1 h]; exact hc5)
    repeat (first | refine gx ?_ | refine gN fun _ => ?_ | refine gB fun _ => ?_ | fail)
    refine W.groupV [4, 5] rfl ?_
    refine aR (o := ⟨n - (j + 1), by omega, j + 1, _, _, _, _, _, _, _, _, by omega, rfl, ho2, ho, e3, hin2, rfl, rfl⟩)
  · obtain rfl : j = n := by omega
    have hz : ¬ (j : Int) < (j : Int) := by omega
    repeat (first | refine gh hz ?_ | refine gN fun _ => ?_ | refine gB fun _ => ?_ | fail)
    have hl1 : (Dv.new j).lasts.length = j := by simp [Dv.new]
    have hl2 : (Dv.new j).later.length = j := by simp [Dv.new]
    refine W.groupV [0, 0, 0] rfl ?_
    refine W.ret (fin _ _ (FinOk.first 1 (aRc .nil) rfl ?_))
    refine ⟨_, rfl, al, cl, at_, ct, none, 0, by rw [hl1, hl2]; rfl, ⟨cls, Hl, hcls, by rw [hl1]; exact Own.roSl how, fun q hq => by simp [hq], fun c hc => (hin c hc).mono fun q hq => by simp [hq]⟩, ⟨List.replicate j ⟨none, 0, []⟩, Ht, by simp [Dv.new], by rw [hl2]; exact Own.roSl hot, fun q hq => by simp [hq], fun c hc => by rw [List.eq_of_mem_replicate hc]; exact nil_in _⟩, nil_in _⟩
end Go.Proofs.Ytpimbaphenignaa
