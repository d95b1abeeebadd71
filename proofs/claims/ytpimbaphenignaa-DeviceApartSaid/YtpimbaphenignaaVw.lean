/-
  What was handed in, and what is told, may be changed.
-/
import Derived.Test.YtpimbaphenignaaVt
namespace Go.Proofs.Ytpimbaphenignaa
open Go Go.Sl Go.IntWalk
set_option maxHeartbeats 8000000
set_option maxRecDepth 20000
set_option linter.unusedVariables false
theorem own_byte {bs : List Int} {lx : List Value} {n k : Nat} (ht : lx.take n = u8s bs) (hn : bs.length = n) (hu : u8ok bs) (hk : k < n) : ∃ x : Nat, x < 256 ∧ k < lx.length ∧ lx[0 + k * 1]? = some (.int .u8 (x : Int)) := by
  have hk2 : k < bs.length := by omega
  have hb := hu _ (List.getElem_mem hk2)
  have e := congrArg (·[k]?) ht
  simp only [List.getElem?_take, if_pos hk, u8s_map, List.getElem?_map, List.getElem?_eq_getElem hk2, Option.map_some] at e
  refine ⟨bs[k].toNat, by omega, ?_, ?_⟩
  · rcases Nat.lt_or_ge k lx.length with h | h
    · exact h
    · rw [List.getElem?_eq_none h] at e; cases e
  · rw [Nat.mul_one, Nat.zero_add, e, Int.toNat_of_nonneg hb.1]
theorem setLater_read {d : Dv} (hd : d.Ok) {i : Int} (hi : d.in_ i) {x : List Int} (h : x.length = 16) : (d.setLater i (sealB x)).read i = (x, 0) := by
  have hl : (d.setLater i (sealB x)).late i = sealB x := by
    have : (d.setLater i (sealB x)).late i = if i = i then sealB x else d.late i := getD_set (by rw [hd.len]; exact hi) hi.1
    rw [this, if_pos rfl]
  unfold Dv.read
  rw [if_pos (setLater_in.2 hi), hl, if_neg (sealB_ne x)]
  exact cOpen_seal h
theorem DeviceOwns_spec (bs : List Int) (hu : u8ok bs) (ab : Option Addr) (cb : Nat) (rb : HL) (hrb : RoSl 1 (u8s bs) ab bs.length rb) (by_ : Nat) (hby : by_ < 256) :
    Ctr Try.prog 5 [.slice ab bs.length cb, .int .u8 (by_ : Int)] [] rb (fun v L' => v = .bool true ∧ L' = []) := by
  have hN := DNew_spec 2
  have hok := Dv.new_ok (n := 2) (by decide) (by decide)
  have hFi := Fill_spec bs ab cb rb hrb 16 (by decide) (by decide)
  have hou := fill_ok hu 16
  have hol := fill_len bs 16
  rw [show (16 : Int).toNat = 16 from rfl] at hFi
  generalize fill bs 16 = own at *
  have hF1 := fun a c (hc : own.length ≤ c) ro hro => Few_spec own a c hc ro hro 16 (by decide) (by decide)
  have hF2 := fun a c (hc : own.length ≤ c) ro hro => Few_spec own a c hc ro hro 9 (by decide) (by decide)
  have ht16 : own.take (16 : Int).toNat = own := List.take_of_length_le (by rw [hol]; decide)
  have h9u : u8ok (own.take 9) := fun x hx => hou x (List.mem_of_mem_take hx)
  have h9l : (own.take 9).length = 9 := by rw [List.length_take, hol]; rfl
  rw [ht16, hol] at hF1
  rw [show (9 : Int).toNat = 9 from rfl, h9l, hol] at hF2
  have hW := fun b H h a c r hr => DWrite_spec (Dv.new 2) hok b H h 1 own hou a c r hr
  have hok2 := write_ok hok 1 hou
  have hw : (Dv.new 2).write 1 own = ((Dv.new 2).setLater 1 (sealB own), 0) := by unfold Dv.write; rw [if_pos (by decide), if_pos hol]
  rw [hw] at hW hok2
  have hrd := setLater_read hok (i := 1) (by decide) hol
  generalize (Dv.new 2).setLater 1 (sealB own) = d1 at *
  have hS := fun b H h a c r hr => DSetHead_spec d1 hok2 b H h (own.take 9) (by omega) a c r hr
  have hok3 : (⟨d1.lasts, d1.later, own.take 9⟩ : Dv).Ok := ⟨hok2.len, hok2.n, hok2.lu, hok2.tu, h9u, by show (own.take 9).length ≤ 100000; omega⟩
  have hrd2 : (⟨d1.lasts, d1.later, own.take 9⟩ : Dv).read 1 = (own, 0) := hrd
  have hR := fun b H h => DRead_spec _ hok3 b H h 1
  rw [hrd2] at hR
  unfold TwoOwn at hR
  simp only [hol] at hR
  have hHe := fun b H h => DHead_spec _ hok3 b H h
  simp only [hol] at hW
  rw [h9l] at hS
  have hhd : (⟨d1.lasts, d1.later, own.take 9⟩ : Dv).head.length = 9 := h9l
  simp only [hhd] at hHe
  have ro9 : ∀ {a : Option Addr} {ro : HL}, RoSl 1 (u8s own) a 16 ro → RoSl 1 (u8s (own.take 9)) a 9 ro := fun h => RoSl.take (f := fun x => [Value.int .u8 x]) (fun _ => rfl) (by rw [hol]; exact h) 9 (by omega)
  refine Ctr.enter (n := 98) [.tmp 4] [(0, _), (1, _)] Try.func5 rfl rfl rfl (lb rfl) Try.call5 ⟨rfl, rfl, trivial⟩ ?_
  intro cx fin fin0
  refine aG ?_
  repeat (first | refine gx ?_ | refine gN fun _ => ?_ | refine gB fun _ => ?_ | fail)
  refine aC (o := hN) (h := ?_)
  rintro _ _ (⟨h, rfl, rfl⟩ | ⟨_, b, H, rfl, rfl, h0⟩)
  · exact absurd (show (1 : Int) ≤ 2 ∧ (2 : Int) ≤ 1024 by decide) h
  refine aG ?_
  repeat (first | refine gx ?_ | refine gN fun _ => ?_ | refine gB fun _ => ?_ | fail)
  refine aC (o := hFi) (h := ?_) (hro := RoIn.all (fun q hq => hq))
  rintro _ _ ⟨a1, c1, O1, rfl, rfl, ho1⟩
  refine aG ?_
  have hc1 : 16 ≤ c1 := by rcases ho1.2 with ⟨_, h0, _⟩ | ⟨_, _, _, _, h0, _⟩ <;> omega
  repeat (first | refine gx ?_ | refine gN fun _ => ?_ | refine gB fun _ => ?_ | fail)
  refine aC (o := hF1 a1 c1 (by omega) O1 (Own.roSl ho1)) (h := ?_) (hro := RoIn.own 0 rfl)
  rintro _ _ ⟨a2, c2, O2, rfl, rfl, ho2⟩
  refine aG ?_
  repeat (first | refine gx ?_ | refine gN fun _ => ?_ | refine gB fun _ => ?_ | fail)
  refine aC (o := hW b H h0 a2 c2 O2 (Own.roSl ho2)) (h := ?_) (hro := RoIn.own 0 rfl)
  rintro _ _ ⟨H2, rfl, rfl, hd2⟩
  refine aG ?_
  repeat (first | refine gx ?_ | refine gN fun _ => ?_ | refine gB fun _ => ?_ | fail)
  refine aC (o := hF2 a1 c1 (by omega) O1 (Own.roSl ho1)) (h := ?_) (hro := RoIn.own 2 rfl)
  rintro _ _ ⟨a3, c3, O3, rfl, rfl, ho3⟩
  refine aG ?_
  repeat (first | refine gx ?_ | refine gN fun _ => ?_ | refine gB fun _ => ?_ | fail)
  refine aC (o := hS b H2 hd2 a3 c3 O3 (Own.roSl ho3)) (h := ?_) (hro := RoIn.own 0 rfl)
  rintro _ _ ⟨H3, rfl, hd3⟩
  refine aG ?_
  obtain ⟨b2, l2, rfl, rfl, hc2, hlen2, ht2⟩ := ho2.some (by decide)
  obtain ⟨b3, l3, rfl, rfl, hc3, hlen3, ht3⟩ := ho3.some (by decide)
  rw [Nat.mul_one] at ht2 ht3
  obtain ⟨x2, hx2, hk2, hl2⟩ := own_byte ht2 hol hou (show 3 < 16 by decide)
  obtain ⟨x3, hx3, hk3, hl3⟩ := own_byte ht3 h9l h9u (show 0 < 9 by decide)
  have hxb2 : x2 ^^^ by_ < 256 := Nat.xor_lt_two_pow (n := 8) hx2 hby
  have hxb3 : x3 ^^^ by_ < 256 := Nat.xor_lt_two_pow (n := 8) hx3 hby
  refine W.groupV [2] rfl ?_
  repeat (first | refine gx ?_ | refine gN fun _ => ?_ | refine gB fun _ => ?_ | fail)
  refine aV (OpVal.ixI (j := 3) tab_ok rfl rfl rfl rfl rfl (by decide)) ?_
  refine aV (OpVal.load tab_ok rfl (at_own 0 rfl) hl2) ?_
  repeat (first | refine gx ?_ | refine gN fun _ => ?_ | refine gB fun _ => ?_ | fail)
  refine aV (OpVal.bitsN (a := x2) (b := by_) (r := x2 ^^^ by_) rfl rfl rfl rfl hx2 hby (u8n hxb2).symm (.inl ⟨rfl, rfl⟩)) ?_
  refine aV (OpVal.ixI (j := 3) tab_ok rfl rfl rfl rfl rfl (by decide)) ?_
  refine W.store tab_ok rfl Upd.here rfl rfl rfl rfl rfl (splice_set hk2 _) (aG ?_)
  refine W.groupV [2] rfl ?_
  repeat (first | refine gx ?_ | refine gN fun _ => ?_ | refine gB fun _ => ?_ | fail)
  refine aV (OpVal.ixI (j := 0) tab_ok rfl rfl rfl rfl rfl (by decide)) ?_
  refine aV (OpVal.load tab_ok rfl (at_own 0 rfl) hl3) ?_
  repeat (first | refine gx ?_ | refine gN fun _ => ?_ | refine gB fun _ => ?_ | fail)
  refine aV (OpVal.bitsN (a := x3) (b := by_) (r := x3 ^^^ by_) rfl rfl rfl rfl hx3 hby (u8n hxb3).symm (.inl ⟨rfl, rfl⟩)) ?_
  refine aV (OpVal.ixI (j := 0) tab_ok rfl rfl rfl rfl rfl (by decide)) ?_
  refine W.store tab_ok rfl Upd.here rfl rfl rfl rfl rfl (splice_set hk3 _) (aG ?_)
  repeat (first | refine gx ?_ | refine gN fun _ => ?_ | refine gB fun _ => ?_ | fail)
  refine W.order [2, 2] rfl ?_
  refine aC (o := hR b H3 hd3) (h := ?_) (hro := RoIn.own 0 rfl)
  rintro _ _ ⟨a4, c4, O4, rfl, rfl, ho4⟩
  refine aG ?_
  repeat (first | refine gx ?_ | refine gN fun _ => ?_ | refine gB fun _ => ?_ | fail)
  refine aV (OpVal.bytesStr tab_ok rfl rfl rfl rfl (Own.roSl ho4) (fun q hq => .inl (by simp [hq]))) ?_
  repeat (first | refine gx ?_ | refine gN fun _ => ?_ | refine gB fun _ => ?_ | fail)
  refine aV (OpVal.bytesStr tab_ok rfl rfl rfl rfl (Own.roSl ho1) (fun q hq => .inl (by simp [hq]))) ?_
  repeat (first | refine gx ?_ | refine gN fun _ => ?_ | refine gB fun _ => ?_ | fail)
  refine aV (OpVal.neStr rfl rfl) ?_
  repeat (first | refine gx ?_ | refine gN fun _ => ?_ | refine gB fun _ => ?_ | fail)
  obtain ⟨b4, l4, rfl, rfl, hc4, hlen4, ht4⟩ := ho4.some (by decide)
  rw [Nat.mul_one] at ht4
  obtain ⟨x4, hx4, hk4, hl4⟩ := own_byte ht4 hol hou (show 2 < 16 by decide)
  have hxb4 : x4 ^^^ by_ < 256 := Nat.xor_lt_two_pow (n := 8) hx4 hby
  refine aV (OpVal.ixI (j := 2) tab_ok rfl rfl rfl rfl rfl (by decide)) ?_
  refine aV (OpVal.load tab_ok rfl (at_own 0 rfl) hl4) ?_
  repeat (first | refine gx ?_ | refine gN fun _ => ?_ | refine gB fun _ => ?_ | fail)
  refine aV (OpVal.bitsN (a := x4) (b := by_) (r := x4 ^^^ by_) rfl rfl rfl rfl hx4 hby (u8n hxb4).symm (.inl ⟨rfl, rfl⟩)) ?_
  refine aV (OpVal.ixI (j := 2) tab_ok rfl rfl rfl rfl rfl (by decide)) ?_
  refine W.store tab_ok rfl Upd.here rfl rfl rfl rfl rfl (splice_set hk4 _) (aG ?_)
  repeat (first | refine gx ?_ | refine gN fun _ => ?_ | refine gB fun _ => ?_ | fail)
  refine W.order [1, 1] rfl ?_
  refine aC (o := hR b H3 hd3) (h := ?_) (hro := RoIn.own 0 rfl)
  rintro _ _ ⟨a5, c5, O5, rfl, rfl, ho5⟩
  refine aG ?_
  repeat (first | refine gx ?_ | refine gN fun _ => ?_ | refine gB fun _ => ?_ | fail)
  refine W.drawH tab_ok 17 [.b false, .b false, .b false, .b false, .b false, .b false, .b false, .b true, .b true, .b false, .b false, .b false, .b false, .b false, .b false, .b true, .b false] [] follows (by decide +kernel) (by decide +kernel) rfl (by decide) rfl ?_
  intro _
  refine dG ?_
  repeat (first | refine dL ?_ | refine dS ?_ | (first | refine dGo ?_ | refine dSk ?_ | refine dUn ?_ | fail) | (first | refine dPT ?_ | refine dPF ?_ | fail) | refine dV (OpVal.add rfl rfl (i64_in _ (by omega))) ?_ | refine dV (OpVal.sub rfl rfl (i64_in _ (by omega))) ?_ | refine dV (OpVal.neBool tab_ok rfl rfl rfl) ?_ | refine dV (OpVal.eqBool tab_ok rfl rfl rfl) ?_ | refine dV (OpVal.eqNil tab_ok rfl rfl rfl) ?_ | refine dV (OpVal.neNil tab_ok rfl rfl rfl) ?_ | fail)
  refine dV (OpVal.bytesStr tab_ok rfl rfl rfl rfl (Own.roSl ho5) (fun q hq => .inr (by simp [hq]))) ?_
  repeat (first | refine dL ?_ | refine dS ?_ | (first | refine dGo ?_ | refine dSk ?_ | refine dUn ?_ | fail) | (first | refine dPT ?_ | refine dPF ?_ | fail) | refine dV (OpVal.add rfl rfl (i64_in _ (by omega))) ?_ | refine dV (OpVal.sub rfl rfl (i64_in _ (by omega))) ?_ | refine dV (OpVal.neBool tab_ok rfl rfl rfl) ?_ | refine dV (OpVal.eqBool tab_ok rfl rfl rfl) ?_ | refine dV (OpVal.eqNil tab_ok rfl rfl rfl) ?_ | refine dV (OpVal.neNil tab_ok rfl rfl rfl) ?_ | fail)
  refine dV (OpVal.bytesStr tab_ok rfl rfl rfl rfl (Own.roSl ho1) (fun q hq => .inr (by simp [hq]))) ?_
  refine dV (OpVal.eqStr rfl rfl) ?_
  repeat (first | refine dL ?_ | refine dS ?_ | (first | refine dGo ?_ | refine dSk ?_ | refine dUn ?_ | fail) | (first | refine dPT ?_ | refine dPF ?_ | fail) | refine dV (OpVal.add rfl rfl (i64_in _ (by omega))) ?_ | refine dV (OpVal.sub rfl rfl (i64_in _ (by omega))) ?_ | refine dV (OpVal.neBool tab_ok rfl rfl rfl) ?_ | refine dV (OpVal.eqBool tab_ok rfl rfl rfl) ?_ | refine dV (OpVal.eqNil tab_ok rfl rfl rfl) ?_ | refine dV (OpVal.neNil tab_ok rfl rfl rfl) ?_ | fail)
  refine dCG (o := hHe b H3 hd3) (h := ?_) (hw := by simp) (hro := RoIn.all fun q hq => by simp [hq])
  rintro _ _ ⟨a6, c6, O6, rfl, rfl, ho6⟩
  refine dG ?_
  refine dVg (OpVal.bytesStr tab_ok rfl rfl rfl rfl (Own.roSl ho6) (fun q hq => .inl (by simp [hq]))) ?_
  repeat (first | refine dL ?_ | refine dS ?_ | (first | refine dGo ?_ | refine dSk ?_ | refine dUn ?_ | fail) | (first | refine dPT ?_ | refine dPF ?_ | fail) | refine dV (OpVal.add rfl rfl (i64_in _ (by omega))) ?_ | refine dV (OpVal.sub rfl rfl (i64_in _ (by omega))) ?_ | refine dV (OpVal.neBool tab_ok rfl rfl rfl) ?_ | refine dV (OpVal.eqBool tab_ok rfl rfl rfl) ?_ | refine dV (OpVal.eqNil tab_ok rfl rfl rfl) ?_ | refine dV (OpVal.neNil tab_ok rfl rfl rfl) ?_ | fail)
  refine dGo ?_ (hw := by simp) (o := OpVal.front (h := 9) tab_ok rfl rfl rfl rfl rfl (by omega))
  refine dGo ?_ (hw := by simp) (o := OpVal.bytesStr tab_ok rfl rfl rfl rfl (ro9 (Own.roSl ho1)) (fun q hq => .inr (by simp [hq])))
  refine dGo ?_ (hw := by simp) (o := OpVal.eqStr rfl rfl)
  repeat (first | refine dL ?_ | refine dS ?_ | (first | refine dGo ?_ | refine dSk ?_ | refine dUn ?_ | fail) | (first | refine dPT ?_ | refine dPF ?_ | fail) | refine dV (OpVal.add rfl rfl (i64_in _ (by omega))) ?_ | refine dV (OpVal.sub rfl rfl (i64_in _ (by omega))) ?_ | refine dV (OpVal.neBool tab_ok rfl rfl rfl) ?_ | refine dV (OpVal.eqBool tab_ok rfl rfl rfl) ?_ | refine dV (OpVal.eqNil tab_ok rfl rfl rfl) ?_ | refine dV (OpVal.neNil tab_ok rfl rfl rfl) ?_ | fail)
  refine dCG (o := Lives_spec) (h := ?_) (hw := by simp) (hro := RoIn.nil)
  rintro _ _ ⟨rfl, rfl⟩
  refine dG ?_
  repeat (first | refine dL ?_ | refine dS ?_ | (first | refine dGo ?_ | refine dSk ?_ | refine dUn ?_ | fail) | (first | refine dPT ?_ | refine dPF ?_ | fail) | refine dV (OpVal.add rfl rfl (i64_in _ (by omega))) ?_ | refine dV (OpVal.sub rfl rfl (i64_in _ (by omega))) ?_ | refine dV (OpVal.neBool tab_ok rfl rfl rfl) ?_ | refine dV (OpVal.eqBool tab_ok rfl rfl rfl) ?_ | refine dV (OpVal.eqNil tab_ok rfl rfl rfl) ?_ | refine dV (OpVal.neNil tab_ok rfl rfl rfl) ?_ | fail)
  refine WD.nil (W.dropNil (aG ?_))
  repeat (first | refine gx ?_ | refine gN fun _ => ?_ | refine gB fun _ => ?_ | fail)
  refine W.ret (fin _ _ (FinOk.mk' ([]) (.tmp rfl .nil) (by repeat (first | exact Sel.nil | (apply Sel.cons; (repeat (first | exact Pick.here | apply Pick.there))))) rfl ?_))
  exact ⟨by simp [pack], rfl⟩
end Go.Proofs.Ytpimbaphenignaa
