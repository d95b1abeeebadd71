/-
  A sector's cell: the document's.
-/
import Derived.Test.YtpimbaphenignaaVi
namespace Go.Proofs.Ytpimbaphenignaa
open Go Go.Sl Go.IntWalk
set_option maxHeartbeats 4000000
set_option maxRecDepth 20000
set_option linter.unusedVariables false
theorem RMore_spec (bs : List Int) (hu : u8ok bs) (a : Option Addr) (cap : Nat) (ro : HL) (hro : RoSl 1 (u8s bs) a bs.length ro) (hl : bs.length ≤ 1000000) :
    Ctr Try.prog 55 [.int .u32 0, .slice a bs.length cap] [] ro (fun v L' => v = .int .u32 (crcI bs : Int) ∧ L' = []) := by
  refine Ctr.enter (n := 37) [.tmp 4] [(0, _), (1, _)] Try.func55 rfl rfl rfl (lb rfl) Try.call55 ⟨rfl, rfl, trivial⟩ ?_
  intro cx fin fin0
  refine aG ?_
  refine aV (OpVal.sub (r := 4294967295) rfl rfl (by decide)) ?_
  refine aLp (fun k ρ1 L1 => ∃ j : Nat, j ≤ bs.length ∧ k = bs.length - j ∧ ρ1 = [(6, .int .i64 (j : Int)), (5, .int .u32 (crcAt bs j : Int)), (1, .slice a bs.length cap)] ∧ L1 = []) (o := ⟨0, Nat.zero_le _, rfl, rfl, rfl⟩) (h := ?_)
  rintro k ρ1 L1 ⟨j, hj, rfl, rfl, rfl⟩
  refine aG ?_
  by_cases hlt : j < bs.length
  · have hz : (j : Int) < (bs.length : Int) := by omega
    have hb := crcAt_lt hu j
    have hnx := crcAt_next hlt
    have huj := hu _ (List.getElem_mem hlt)
    obtain ⟨bx, ox, lx, ex, frx, rfl, rfl, -, hld⟩ := RoSl.at (f := fun x : Int => [Value.int .u8 x]) (m := 1) (fun _ => rfl) hro hlt
    have l0 : lx[ox + j * 1]? = some (.int .u8 bs[j]) := hld 0 (by decide)
    generalize hcj : bs[j] = c at *
    obtain ⟨c, rfl⟩ : ∃ d : Nat, c = (d : Int) := ⟨c.toNat, by omega⟩
    rw [Int.toNat_natCast] at hnx
    have hxc : crcAt bs j ^^^ c < 2 ^ 32 := Nat.xor_lt_two_pow hb (by omega)
    repeat (first | refine gh hz ?_ | refine gN fun _ => ?_ | refine gB fun _ => ?_ | fail)
    refine aV (OpVal.ixI tab_ok rfl rfl rfl rfl rfl hlt) ?_
    refine aV (OpVal.load tab_ok rfl (show At _ _ bx (.cells lx.toArray ex frx) from .inr (by simp)) l0) ?_
    refine aV (OpVal.conv tab_ok rfl rfl rfl (u32n (by omega))) ?_
    refine aV (OpVal.xor32 (a := crcAt bs j) (b := c) rfl rfl hb (by omega)) ?_
    generalize crcAt bs j ^^^ c = x at *
    repeat (first | refine gh hz ?_ | refine gN fun _ => ?_ | refine gB fun _ => ?_ | fail)
    refine aLp (fun k ρ1 L1 => ∃ i : Nat, i ≤ 8 ∧ k = 8 - i ∧ ρ1 = [(7, .int .i64 (i : Int)), (5, .int .u32 (csteps i x : Int)), (6, .int .i64 (j : Int)), (1, .slice (some ⟨bx, ox, none⟩) bs.length cap)] ∧ L1 = []) (o := ⟨0, by decide, rfl, rfl, rfl⟩) (h := ?_)
    rintro k ρ1 L1 ⟨i, hi, rfl, rfl, rfl⟩
    refine aG ?_
    by_cases hlt2 : i < 8
    · have hz2 : (i : Int) < 8 := by omega
      have hy := csteps_lt i hxc
      have hs := csteps_snoc i x
      unfold cstep at hs
      generalize csteps i x = y at *
      have hrem : ((y : Int).tmod 2) = ((y % 2 : Nat) : Int) := rfl
      have hquo : IntKind.u32.wrap ((y : Int).tdiv 2) = ((y / 2 : Nat) : Int) := by rw [u32_quo _ _ (by omega)]; omega
      repeat (first | refine gh hz2 ?_ | refine gN fun _ => ?_ | refine gB fun _ => ?_ | fail)
      refine aV (OpVal.rem rfl rfl (by decide) hrem) ?_
      rcases Nat.mod_two_eq_zero_or_one y with h2 | h2
      · have h1 : ¬ ((y % 2 : Nat) : Int) = 1 := by omega
        rw [if_neg (by omega)] at hs
        repeat (first | refine gh h1 ?_ | refine gN fun _ => ?_ | refine gB fun _ => ?_ | fail)
        refine aV (OpVal.quo rfl rfl (by decide) hquo) ?_
        rw [← hs]
        repeat (first | refine gh hz2 ?_ | refine gN fun _ => ?_ | refine gB fun _ => ?_ | fail)
        refine aR (o := ⟨8 - (i + 1), by omega, i + 1, by omega, rfl, rfl, rfl⟩)
      · have h1 : ((y % 2 : Nat) : Int) = 1 := by omega
        rw [if_pos h2] at hs
        repeat (first | refine gh h1 ?_ | refine gN fun _ => ?_ | refine gB fun _ => ?_ | fail)
        refine aV (OpVal.quo rfl rfl (by decide) hquo) ?_
        refine aV (OpVal.xor32 (a := y / 2) (b := poly) rfl rfl (by omega) poly_lt) ?_
        rw [← hs]
        repeat (first | refine gh hz2 ?_ | refine gN fun _ => ?_ | refine gB fun _ => ?_ | fail)
        refine aR (o := ⟨8 - (i + 1), by omega, i + 1, by omega, rfl, rfl, rfl⟩)
    · obtain rfl : i = 8 := by omega
      have hz2 : ¬ ((8 : Nat) : Int) < 8 := by decide
      rw [← hnx]
      repeat (first | refine gh hz2 ?_ | refine gN fun _ => ?_ | refine gB fun _ => ?_ | fail)
      refine aR (o := ⟨bs.length - (j + 1), by omega, j + 1, by omega, rfl, rfl, rfl⟩)
  · obtain rfl : j = bs.length := by omega
    have hz : ¬ (bs.length : Int) < (bs.length : Int) := by omega
    have hb := crcAt_lt hu bs.length
    repeat (first | refine gh hz ?_ | refine gN fun _ => ?_ | refine gB fun _ => ?_ | fail)
    refine aV (OpVal.sub (r := ((4294967295 - crcAt bs bs.length : Nat) : Int)) rfl rfl (by rw [← u32n (r := 4294967295 - crcAt bs bs.length) (by omega)]; congr 1; omega)) ?_
    rw [← crcAt_all]
    repeat (first | refine gx ?_ | refine gN fun _ => ?_ | refine gB fun _ => ?_ | fail)
    refine W.ret (fin _ _ (FinOk.mk' ([]) (.tmp rfl .nil) (by repeat (first | exact Sel.nil | (apply Sel.cons; (repeat (first | exact Pick.here | apply Pick.there))))) rfl ?_))
    exact ⟨rfl, rfl⟩
theorem RPut_spec (bs : List Int) (hu : u8ok bs) (a : Option Addr) (cap : Nat) (ro : HL) (hro : RoSl 1 (u8s bs) a bs.length ro) (hl : bs.length ≤ 100000) :
    Ctr Try.prog 40 [.slice a bs.length cap] [] ro (fun v L' => ∃ a' cap' H, v = .slice a' (sealB bs).length cap' ∧ L' = [H] ∧ Own 1 5 (u8s (sealB bs)) a' (sealB bs).length cap' H) := by
  have hS := RMore_spec bs hu a cap ro hro (by omega)
  have hlt := crcI_lt hu
  unfold sealB
  generalize crcI bs = x at *
  refine Ctr.enter (n := 24) [.tmp 2] [(0, _)] Try.func40 rfl rfl rfl (lb rfl) Try.call40 ⟨rfl, trivial⟩ ?_
  intro cx fin fin0
  refine aG ?_
  refine aC (o := hS) (h := ?_)
  rintro _ _ ⟨rfl, rfl⟩
  refine aG ?_
  repeat (first | refine gx ?_ | refine gN fun _ => ?_ | refine gB fun _ => ?_ | fail)
  refine W.nilChunk ?_
  refine aPr (appU8 (xs := []) tab_ok rfl rfl rfl (Own.nil 1 5) (by intro p hp; cases hp) rfl hro (fun q hq => .inr hq) (by simp; omega) (by simp; omega)) ?_
  rintro _ _ ⟨a1, c1, H1, rfl, rfl, how⟩
  refine aG ?_
  rw [List.nil_append] at how
  repeat (first | refine gx ?_ | refine gN fun _ => ?_ | refine gB fun _ => ?_ | fail)
  refine aLp (fun k ρ1 L1 => ∃ (j y : Nat) (a1 : Option Addr) (c1 : Nat) (H1 : HL), j ≤ 4 ∧ k = 4 - j ∧ y = x / 256 ^ j ∧ Own 1 5 (u8s (bs ++ chk x j)) a1 (bs.length + j) c1 H1 ∧ ρ1 = [(5, .int .i64 (j : Int)), (4, .slice a1 (bs.length + j) c1), (3, .int .u32 (y : Int))] ∧ L1 = [H1]) (o := ⟨0, x, a1, c1, H1, by decide, rfl, by simp, by simpa [chk] using how, rfl, rfl⟩) (h := ?_)
  rintro k ρ1 L1 ⟨j, y, a1, c1, H1, hj, rfl, hy, how, rfl, rfl⟩
  refine aG ?_
  by_cases hlt2 : j < 4
  · have hz : (j : Int) < 4 := by omega
    have hyl : y < 2 ^ 32 := by rw [hy]; exact Nat.lt_of_le_of_lt (Nat.div_le_self _ _) hlt
    have hrem : ((y : Int).tmod 256) = ((y % 256 : Nat) : Int) := rfl
    have hquo : IntKind.u32.wrap ((y : Int).tdiv 256) = ((y / 256 : Nat) : Int) := by rw [u32_quo _ _ (by omega)]; omega
    have e1 : y / 256 = x / 256 ^ (j + 1) := by rw [hy, Nat.div_div_eq_div_mul, Nat.pow_succ 256 j]
    have e2 : u8s (bs ++ chk x j) ++ [.int .u8 ((y % 256 : Nat) : Int)] = u8s (bs ++ chk x (j + 1)) := by
      rw [show chk x (j + 1) = chk x j ++ [((x / 256 ^ j % 256 : Nat) : Int)] from rfl, ← List.append_assoc, u8s_append (bs ++ chk x j), ← hy]
      rfl
    repeat (first | refine gh hz ?_ | refine gN fun _ => ?_ | refine gB fun _ => ?_ | fail)
    refine aV (OpVal.rem rfl rfl (by decide) hrem) ?_
    refine aV (OpVal.conv tab_ok rfl rfl rfl (u8n (Nat.mod_lt _ (by decide)))) ?_
    refine aSl (ps := [_]) ?_
    intro bt
    refine aG ?_
    refine aAp (how) ?_
    rintro _ _ ⟨_, _, _, rfl, rfl, ho⟩
    refine aG ?_
    refine aV (OpVal.quo rfl rfl (by decide) hquo) ?_
    rw [e2] at ho
    repeat (first | refine gh hz ?_ | refine gN fun _ => ?_ | refine gB fun _ => ?_ | fail)
    refine aR (o := ⟨4 - (j + 1), by omega, j + 1, _, _, _, _, by omega, rfl, e1, ho, rfl, rfl⟩)
  · obtain rfl : j = 4 := by omega
    have hz : ¬ ((4 : Nat) : Int) < 4 := by decide
    repeat (first | refine gh hz ?_ | refine gN fun _ => ?_ | refine gB fun _ => ?_ | fail)
    refine W.ret (fin _ _ (FinOk.first 1 (.tmp rfl .nil) rfl ?_))
    exact ⟨_, _, _, by rw [List.length_append, chk_len]; rfl, rfl, by rw [List.length_append, chk_len]; exact how⟩
theorem RGood_spec (c : List Int) (hu : u8ok c) (h20 : c.length = 20) (a : Option Addr) (cap : Nat) (hcap : c.length ≤ cap) (ro : HL) (hro : RoSl 1 (u8s c) a c.length ro) :
    Ctr Try.prog 58 [.slice a c.length cap] [] ro (fun v L' => v = .bool (decide (sealB (c.take 16) = c)) ∧ L' = []) := by
  have hro2 : RoSl 1 (u8s (c.take 16)) a 16 ro := RoSl.take (f := fun x => [Value.int .u8 x]) (fun _ => rfl) hro _ (by omega)
  have hl2 : (c.take 16).length = 16 := by rw [List.length_take]; omega
  have hu2 : u8ok (c.take 16) := fun x hx => hu x (List.mem_of_mem_take hx)
  have hP := RPut_spec (c.take 16) hu2 a cap ro (by rw [hl2]; exact hro2) (by omega)
  rw [hl2] at hP
  have hz : ¬ (c.length : Int) < 4 := by omega
  have hn : (c.length : Int) - 4 = ((16 : Nat) : Int) := by omega
  have hb := bstr_eq (sealB_ok hu2) hu
  generalize c.take 16 = cs at *
  refine Ctr.enter (n := 16) [.tmp 2] [(0, _)] Try.func58 rfl rfl rfl (lb rfl) Try.call58 ⟨rfl, trivial⟩ ?_
  intro cx fin fin0
  refine aG ?_
  repeat (first | refine gh hz ?_ | refine gN fun _ => ?_ | refine gB fun _ => ?_ | fail)
  refine W.drawH tab_ok 10 [.b false, .b false, .b false, .b false, .b false, .b true, .b true, .b false, .b false, .b false] [] follows (by decide +kernel) (by decide +kernel) rfl (by decide) rfl ?_
  intro _
  refine dG ?_
  refine dV (OpVal.sub rfl rfl (i64_in _ (by omega))) ?_
  rw [hn]
  refine dV (OpVal.front tab_ok rfl rfl rfl rfl rfl (by omega)) ?_
  refine dC (o := hP) (h := ?_)
  rintro _ _ ⟨a1, c1, H1, rfl, rfl, ho⟩
  refine dG ?_
  refine WD.valA (OpVal.bytesStr tab_ok rfl rfl rfl rfl (Own.roSl ho) (fun q hq => .inl (by simp [hq]))) (by exact Nat.le_of_ble_eq_true rfl) (WD.step tab_ok rfl rfl ?_)
  refine dV (OpVal.bytesStr tab_ok rfl rfl rfl rfl hro (fun q hq => .inr (by simp [hq]))) ?_
  refine dV (OpVal.eqStr rfl rfl) ?_
  rw [hb]
  refine WD.nil (W.dropNil (aG ?_))
  repeat (first | refine gx ?_ | refine gN fun _ => ?_ | refine gB fun _ => ?_ | fail)
  refine W.order [] rfl ?_
  refine W.ret (fin _ _ (FinOk.first 0 (.tmp rfl .nil) rfl ?_))
  exact ⟨rfl, rfl⟩
end Go.Proofs.Ytpimbaphenignaa
