/-
  A sector's cell: the program's.
-/
import Derived.Test.YtpimbaphenignaaVb
import Derived.Test.YtpimbaphenignaaLw
namespace Go.Proofs.Ytpimbaphenignaa
open Go Go.Sl Go.IntWalk
set_option maxHeartbeats 4000000
set_option maxRecDepth 20000
set_option linter.unusedVariables false
theorem roOwn (b : Nat) (bs : List Int) (e : Nat) : RoSl 1 (u8s bs) (some ⟨b, 0, none⟩) bs.length [(b, .cells (u8s bs).toArray e (0, 0))] :=
  ⟨by rw [u8s_len, Nat.mul_one], .inr ⟨b, 0, u8s bs, e, (0, 0), rfl, rfl, by rw [u8s_len]; omega, by rw [List.drop_zero, Nat.mul_one, ← u8s_len bs, List.take_length]⟩⟩
/-- The check's four bytes. -/
def chk (x : Nat) : Nat → List Int
  | 0 => []
  | k + 1 => chk x k ++ [((x / 256 ^ k % 256 : Nat) : Int)]
theorem chk_len (x : Nat) : ∀ k, (chk x k).length = k
  | 0 => rfl
  | k + 1 => by simp [chk, chk_len x k]
theorem chk_ok (x : Nat) : ∀ k, u8ok (chk x k)
  | 0 => fun b hb => by cases hb
  | k + 1 => fun b hb => by
    rcases List.mem_append.1 hb with h | h
    · exact chk_ok x k b h
    · rw [List.mem_singleton.1 h]; omega
def sealB (bs : List Int) : List Int := bs ++ chk (crcI bs) 4
theorem sealB_len (bs : List Int) : (sealB bs).length = bs.length + 4 := by simp [sealB, chk_len]
theorem sealB_ok {bs : List Int} (h : u8ok bs) : u8ok (sealB bs) := fun b hb => by
  rcases List.mem_append.1 hb with h1 | h1
  · exact h b h1
  · exact chk_ok _ _ b h1
theorem sealB_take (bs : List Int) : (sealB bs).take bs.length = bs := by unfold sealB; rw [List.take_left]
theorem Clone0_spec (cap : Nat) : Ctr Try.prog 39 [.slice none 0 cap] [] [] (fun v L' => v = .slice none 0 0 ∧ L' = []) := by
  refine Ctr.enter (n := 8) [.tmp 2] [(0, _)] Try.func39 rfl rfl rfl (lb rfl) Try.call39 ⟨rfl, trivial⟩ ?_
  intro cx fin fin0
  refine aG ?_
  refine aV (OpVal.eqNilSl tab_ok rfl rfl rfl) ?_
  refine aT ?_ (hb := by rfl)
  refine W.ret (fin _ _ (FinOk.first 0 (.tmp rfl .nil) rfl ?_))
  exact ⟨rfl, rfl⟩
/-- Bytes, in memory of their own. -/
theorem BClone_spec (bs : List Int) (hl : bs.length ≤ 1000000) (a : Option Addr) (cap : Nat) (ro : HL) (hro : RoSl 1 (u8s bs) a bs.length ro) :
    Ctr Try.prog 39 [.slice a bs.length cap] [] ro (fun v L' => ∃ a' cap' H, v = .slice a' bs.length cap' ∧ L' = [H] ∧ Own 1 5 (u8s bs) a' bs.length cap' H) := by
  refine Ctr.enter (n := 8) [.tmp 2] [(0, _)] Try.func39 rfl rfl rfl (lb rfl) Try.call39 ⟨rfl, trivial⟩ ?_
  intro cx fin fin0
  refine aG ?_
  refine aV (OpVal.eqNilSl tab_ok rfl rfl rfl) ?_
  cases a with
  | none =>
    have h0 : bs = [] := by
      rcases hro.2 with ⟨h, -⟩ | ⟨_, _, _, _, _, h, _⟩
      · exact List.eq_nil_of_length_eq_zero h
      · cases h
    subst h0
    refine aT ?_ (hb := by rfl)
    refine W.nilChunk ?_
    refine W.ret (fin _ _ (FinOk.first 1 (.tmp rfl .nil) rfl ?_))
    exact ⟨_, _, _, rfl, rfl, Own.nil 1 _⟩
  | some ad =>
    refine aF ?_ (hb := by rfl)
    refine aSl (ps := []) ?_
    intro b5
    refine aG ?_
    have how : Own 1 5 (u8s []) (some ⟨b5, 0, none⟩) ([] : List Int).length 0 [(b5, .cells #[] 5 (0, 0))] := ⟨rfl, .inr ⟨b5, [], rfl, rfl, Nat.le_refl _, rfl, rfl⟩⟩
    refine aPr (appU8 tab_ok rfl rfl rfl how (by intro p hp; simp [hp]) rfl hro (fun q hq => .inr hq) (by simp; omega) (by simp; omega)) ?_
    rintro _ _ ⟨a2, c2, H2, rfl, rfl, ho⟩
    refine aG ?_
    rw [List.nil_append] at ho
    repeat (first | refine gx ?_ | refine gN fun _ => ?_ | refine gB fun _ => ?_ | fail)
    refine W.ret (fin _ _ (FinOk.first 1 (.tmp rfl .nil) rfl ?_))
    exact ⟨_, _, _, rfl, rfl, ho⟩
theorem BEqual_spec (x y : List Int) (hx : u8ok x) (hy : u8ok y) (a : Option Addr) (cap : Nat) (r1 : HL) (h1 : RoSl 1 (u8s x) a x.length r1) (b : Option Addr) (cb : Nat) (r2 : HL) (h2 : RoSl 1 (u8s y) b y.length r2) :
    Ctr Try.prog 60 [.slice a x.length cap, .slice b y.length cb] [] (r1 ++ r2) (fun v L' => v = .bool (decide (x = y)) ∧ L' = []) := by
  refine Ctr.enter (n := 10) [.tmp 4] [(0, _), (1, _)] Try.func60 rfl rfl rfl (lb rfl) Try.call60 ⟨rfl, rfl, trivial⟩ ?_
  intro cx fin fin0
  refine aG ?_
  refine aV (OpVal.bytesStr tab_ok rfl rfl rfl rfl h1 (fun q hq => .inr (by simp [hq]))) ?_
  refine aV (OpVal.bytesStr tab_ok rfl rfl rfl rfl h2 (fun q hq => .inr (by simp [hq]))) ?_
  refine aV (OpVal.eqStr rfl rfl) ?_
  rw [bstr_eq hx hy]
  refine W.ret (fin _ _ (FinOk.first 0 (.tmp rfl .nil) rfl ?_))
  exact ⟨rfl, rfl⟩
theorem CSum_spec (bs : List Int) (hu : u8ok bs) (a : Option Addr) (cap : Nat) (ro : HL) (hro : RoSl 1 (u8s bs) a bs.length ro) (hl : bs.length ≤ 1000000) :
    Ctr Try.prog 59 [.slice a bs.length cap] [] ro (fun v L' => v = .int .u32 (crcI bs : Int) ∧ L' = []) := by
  have hM := More_spec bs hu a cap ro hro hl
  refine Ctr.enter (n := 5) [.tmp 2] [(0, _)] Try.func59 rfl rfl rfl (lb rfl) Try.call59 ⟨rfl, trivial⟩ ?_
  intro cx fin fin0
  refine aG ?_
  refine aC (o := hM) (h := ?_)
  rintro _ _ ⟨rfl, rfl⟩
  refine aG ?_
  refine W.ret (fin _ _ (FinOk.first 0 (.tmp rfl .nil) rfl ?_))
  exact ⟨rfl, rfl⟩
theorem crcI_lt {bs : List Int} (h : u8ok bs) : crcI bs < 2 ^ 32 := by rw [crcAt_all]; omega
theorem Put_spec (bs : List Int) (hu : u8ok bs) (a : Option Addr) (cap : Nat) (ro : HL) (hro : RoSl 1 (u8s bs) a bs.length ro) (hl : bs.length ≤ 100000) :
    Ctr Try.prog 50 [.slice a bs.length cap] [] ro (fun v L' => ∃ a' cap' H, v = .slice a' (sealB bs).length cap' ∧ L' = [H] ∧ Own 1 5 (u8s (sealB bs)) a' (sealB bs).length cap' H) := by
  have hS := CSum_spec bs hu a cap ro hro (by omega)
  have hC := BClone_spec bs (by omega) a cap ro hro
  have hlt := crcI_lt hu
  unfold sealB
  generalize crcI bs = x at *
  refine Ctr.enter (n := 20) [.tmp 2] [(0, _)] Try.func50 rfl rfl rfl (lb rfl) Try.call50 ⟨rfl, trivial⟩ ?_
  intro cx fin fin0
  refine aG ?_
  refine aC (o := hS) (h := ?_)
  rintro _ _ ⟨rfl, rfl⟩
  refine aG ?_
  refine aC (o := hC) (h := ?_)
  rintro _ _ ⟨a1, c1, H1, rfl, rfl, how⟩
  refine aG ?_
  refine aLp (fun k ρ1 L1 => ∃ (j y : Nat) (a1 : Option Addr) (c1 : Nat) (H1 : HL), j ≤ 4 ∧ k = 4 - j ∧ y = x / 256 ^ j ∧ Own 1 5 (u8s (bs ++ chk x j)) a1 (bs.length + j) c1 H1 ∧ ρ1 = [(9, .int .i64 (j : Int)), (4, .slice a1 (bs.length + j) c1), (3, .int .u32 (y : Int))] ∧ L1 = [H1]) (o := ⟨0, x, a1, c1, H1, by decide, rfl, by simp, by simpa [chk] using how, rfl, rfl⟩) (h := ?_)
  rintro k ρ1 L1 ⟨j, y, a1, c1, H1, hj, rfl, rfl, how, rfl, rfl⟩
  refine aG ?_
  by_cases hlt2 : j < 4
  · have hz : (j : Int) < 4 := by omega
    repeat (first | refine gh hz ?_ | refine gN fun _ => ?_ | refine gB fun _ => ?_ | fail)
    refine aV (OpVal.conv tab_ok rfl rfl rfl (u8mod (x / 256 ^ j))) ?_
    refine aSl (ps := [_]) ?_
    intro bt
    refine aG ?_
    refine aAp (how) ?_
    rintro _ _ ⟨_, _, _, rfl, rfl, ho⟩
    refine aG ?_
    refine aV (OpVal.shrN (a := x / 256 ^ j) (c := 8) rfl rfl) ?_
    have e1 : x / 256 ^ j / 2 ^ 8 = x / 256 ^ (j + 1) := by rw [Nat.div_div_eq_div_mul, Nat.pow_succ 256 j]
    rw [e1]
    have e2 : u8s (bs ++ chk x j) ++ [.int .u8 ((x / 256 ^ j % 256 : Nat) : Int)] = u8s (bs ++ chk x (j + 1)) := by
      rw [show chk x (j + 1) = chk x j ++ [((x / 256 ^ j % 256 : Nat) : Int)] from rfl, ← List.append_assoc, u8s_append (bs ++ chk x j)]
      rfl
    rw [e2] at ho
    repeat (first | refine gh hz ?_ | refine gN fun _ => ?_ | refine gB fun _ => ?_ | fail)
    refine aR (o := ⟨4 - (j + 1), by omega, j + 1, _, _, _, _, by omega, rfl, rfl, ho, rfl, rfl⟩)
  · obtain rfl : j = 4 := by omega
    repeat (first | refine gx ?_ | refine gN fun _ => ?_ | refine gB fun _ => ?_ | fail)
    refine W.ret (fin _ _ (FinOk.first 1 (.tmp rfl .nil) rfl ?_))
    exact ⟨_, _, _, by rw [List.length_append, chk_len]; rfl, rfl, by rw [List.length_append, chk_len]; exact how⟩
theorem Take_spec (bs : List Int) (hu : u8ok bs) (h4 : 4 ≤ bs.length) (a : Option Addr) (cap : Nat) (hcap : bs.length ≤ cap) (ro : HL) (hro : RoSl 1 (u8s bs) a bs.length ro) (hl : bs.length ≤ 100000) :
    Ctr Try.prog 51 [.slice a bs.length cap] [] ro (fun v L' => (sealB (bs.take (bs.length - 4)) ≠ bs ∧ v = .tuple #[.slice none 0 0, .int .i64 9] ∧ L' = []) ∨
      (sealB (bs.take (bs.length - 4)) = bs ∧ ∃ a' cap' H, v = .tuple #[.slice a' (bs.length - 4) cap', .int .i64 0] ∧ L' = [H] ∧ Own 1 5 (u8s (bs.take (bs.length - 4))) a' (bs.length - 4) cap' H)) := by
  have hro2 : RoSl 1 (u8s (bs.take (bs.length - 4))) a (bs.length - 4) ro := RoSl.take (f := fun x => [Value.int .u8 x]) (fun _ => rfl) hro _ (by omega)
  have hl2 : (bs.take (bs.length - 4)).length = bs.length - 4 := by rw [List.length_take]; omega
  have hu2 : u8ok (bs.take (bs.length - 4)) := fun x hx => hu x (List.mem_of_mem_take hx)
  have hP := Put_spec (bs.take (bs.length - 4)) hu2 a cap ro (by rw [hl2]; exact hro2) (by omega)
  have hC := BClone_spec (bs.take (bs.length - 4)) (by omega) a cap ro (by rw [hl2]; exact hro2)
  rw [hl2] at hP hC
  have hE := fun b cb r2 h2 => BEqual_spec (sealB (bs.take (bs.length - 4))) bs (sealB_ok hu2) hu b cb r2 h2 a cap ro hro
  have hn : (bs.length : Int) - 4 = ((bs.length - 4 : Nat) : Int) := by omega
  generalize bs.take (bs.length - 4) = cs at *
  refine Ctr.enter (n := 21) [.tmp 2, .tmp 3] [(0, _)] Try.func51 rfl rfl rfl (lb rfl) Try.call51 ⟨rfl, trivial⟩ ?_
  intro cx fin fin0
  refine aG ?_
  refine aV (OpVal.sub rfl rfl (i64_in _ (by omega))) ?_
  rw [hn]
  have hz : ¬ ((bs.length - 4 : Nat) : Int) < 0 := by omega
  repeat (first | refine gh hz ?_ | refine gN fun _ => ?_ | refine gB fun _ => ?_ | fail)
  refine aV (OpVal.front tab_ok rfl rfl rfl rfl rfl (by omega)) ?_
  refine aC (o := hP) (h := ?_)
  rintro _ _ ⟨a1, c1, H1, rfl, rfl, ho⟩
  refine aG ?_
  refine aC (o := hE a1 c1 H1 (Own.roSl ho)) (h := ?_) (hro := RoIn.append (RoIn.own 0 rfl) (RoIn.all (fun q hq => hq)))
  rintro _ _ ⟨rfl, rfl⟩
  refine aG ?_
  by_cases hq : sealB cs = bs
  · repeat (first | refine gh hq ?_ | refine gN fun _ => ?_ | refine gB fun _ => ?_ | fail)
    refine aV (OpVal.front tab_ok rfl rfl rfl rfl rfl (by omega)) ?_
    refine aC (o := hC) (h := ?_)
    rintro _ _ ⟨a2, c2, H2, rfl, rfl, ho2⟩
    refine aG ?_
    repeat (first | refine gx ?_ | refine gN fun _ => ?_ | refine gB fun _ => ?_ | fail)
    refine W.ret (fin _ _ (FinOk.first 1 (.tmp rfl (.tmp rfl .nil)) rfl ?_))
    exact .inr ⟨hq, _, _, _, rfl, rfl, ho2⟩
  · repeat (first | refine gh hq ?_ | refine gN fun _ => ?_ | refine gB fun _ => ?_ | fail)
    refine W.order [] rfl ?_
    refine W.ret (fin _ _ (FinOk.first 0 (.tmp rfl (.tmp rfl .nil)) rfl ?_))
    exact .inl ⟨hq, rfl, rfl⟩
theorem Zero_spec : Ctr Try.prog 52 [] [] [] (fun v L' => ∃ b, v = .slice (some ⟨b, 0, none⟩) 16 16 ∧ L' = [[(b, .cells (u8s (List.replicate 16 0)).toArray 5 (0, 0))]]) := by
  have e : repL 16 [Value.int .u8 0] = u8s (List.replicate 16 0) := rfl
  refine Ctr.enter (n := 2) [.tmp 0] [] Try.func52 rfl rfl rfl (lb rfl) Try.call52 trivial ?_
  intro cx fin fin0
  refine aG ?_
  refine aW (NewOf.mks (bytes := 1) (len := 16) (cap := 16) tab_ok rfl rfl rfl rfl rfl rfl rfl rfl rfl (Nat.le_refl _) (by decide) (by decide)) ?_
  intro b1
  refine aG ?_
  rw [e]
  refine W.ret (fin _ _ (FinOk.first 1 (.tmp rfl .nil) rfl ?_))
  exact ⟨_, rfl, rfl⟩
theorem Seal_spec (bs : List Int) (hu : u8ok bs) (a : Option Addr) (cap : Nat) (ro : HL) (hro : RoSl 1 (u8s bs) a bs.length ro) :
    Ctr Try.prog 31 [.slice a bs.length cap] [] ro (fun v L' => (bs.length ≠ 16 ∧ v = .tuple #[.slice none 0 0, .int .i64 2] ∧ L' = []) ∨
      (bs.length = 16 ∧ ∃ a' cap' H, v = .tuple #[.slice a' 20 cap', .int .i64 0] ∧ L' = [H] ∧ Own 1 5 (u8s (sealB bs)) a' 20 cap' H)) := by
  by_cases h : bs.length = 16
  · have hP := Put_spec bs hu a cap ro hro (by omega)
    refine Ctr.enter (n := 9) [.tmp 2, .tmp 3] [(0, _)] Try.func31 rfl rfl rfl (lb rfl) Try.call31 ⟨rfl, trivial⟩ ?_
    intro cx fin fin0
    refine aG ?_
    repeat (first | refine gh h ?_ | refine gN fun _ => ?_ | refine gB fun _ => ?_ | fail)
    refine aC (o := hP) (h := ?_)
    rintro _ _ ⟨a1, c1, H1, rfl, rfl, ho⟩
    refine aG ?_
    repeat (first | refine gx ?_ | refine gN fun _ => ?_ | refine gB fun _ => ?_ | fail)
    refine W.ret (fin _ _ (FinOk.first 1 (.tmp rfl (.tmp rfl .nil)) rfl ?_))
    exact .inr ⟨h, _, _, _, by rw [sealB_len, h]; rfl, rfl, by rw [sealB_len, h] at ho; exact ho⟩
  · have hz : ¬ (bs.length : Int) = 16 := by omega
    refine Ctr.enter (n := 9) [.tmp 2, .tmp 3] [(0, _)] Try.func31 rfl rfl rfl (lb rfl) Try.call31 ⟨rfl, trivial⟩ ?_
    intro cx fin fin0
    refine aG ?_
    repeat (first | refine gh hz ?_ | refine gN fun _ => ?_ | refine gB fun _ => ?_ | fail)
    refine W.ret (fin _ _ (FinOk.first 0 (.tmp rfl (.tmp rfl .nil)) rfl ?_))
    exact .inl ⟨h, rfl, rfl⟩
/-- What a cell is told to hold. -/
def cOpen (c : List Int) : List Int × Int := if c.length ≠ 20 then ([], 2) else if sealB (c.take 16) = c then (c.take 16, 0) else ([], 9)
theorem Open_spec (c : List Int) (hu : u8ok c) (a : Option Addr) (cap : Nat) (hcap : c.length ≤ cap) (ro : HL) (hro : RoSl 1 (u8s c) a c.length ro) (h20 : c.length = 20) :
    Ctr Try.prog 32 [.slice a c.length cap] [] ro (fun v L' => ∃ a' cap' H, v = .tuple #[.slice a' (cOpen c).1.length cap', .int .i64 (cOpen c).2] ∧ L' = [H] ∧ Own 1 5 (u8s (cOpen c).1) a' (cOpen c).1.length cap' H) := by
  have hT := Take_spec c hu (by omega) a cap hcap ro hro (by omega)
  rw [h20] at hT ⊢
  have hl : (c.take 16).length = 16 := by rw [List.length_take]; omega
  unfold cOpen
  rw [if_neg (by omega)]
  by_cases hq : sealB (c.take 16) = c
  · rw [if_pos hq]
    refine Ctr.enter (n := 11) [.tmp 2, .tmp 3] [(0, _)] Try.func32 rfl rfl rfl (lb rfl) Try.call32 ⟨rfl, trivial⟩ ?_
    intro cx fin fin0
    refine aG ?_
    repeat (first | refine gx ?_ | refine gN fun _ => ?_ | refine gB fun _ => ?_ | fail)
    refine aC (o := hT) (h := ?_)
    rintro _ _ (⟨hn, -, -⟩ | ⟨-, a1, c1, H1, rfl, rfl, ho⟩)
    · exact absurd hq hn
    refine aG ?_
    repeat (first | refine gx ?_ | refine gN fun _ => ?_ | refine gB fun _ => ?_ | fail)
    refine W.ret (fin _ _ (FinOk.first 1 (.tmp rfl (.tmp rfl .nil)) rfl ?_))
    exact ⟨_, _, _, by rw [hl]; rfl, rfl, by rw [hl]; exact ho⟩
  · rw [if_neg hq]
    refine Ctr.enter (n := 11) [.tmp 2, .tmp 3] [(0, _)] Try.func32 rfl rfl rfl (lb rfl) Try.call32 ⟨rfl, trivial⟩ ?_
    intro cx fin fin0
    refine aG ?_
    repeat (first | refine gx ?_ | refine gN fun _ => ?_ | refine gB fun _ => ?_ | fail)
    refine aC (o := hT) (h := ?_)
    rintro _ _ (⟨-, rfl, rfl⟩ | ⟨hn, -⟩)
    · refine aG ?_
      repeat (first | refine gx ?_ | refine gN fun _ => ?_ | refine gB fun _ => ?_ | fail)
      refine W.nilChunk ?_
      refine W.ret (fin _ _ (FinOk.first 1 (.tmp rfl (.tmp rfl .nil)) rfl ?_))
      exact ⟨_, _, _, rfl, rfl, Own.nil 1 _⟩
    · exact absurd hn hq
end Go.Proofs.Ytpimbaphenignaa
