/-
  The check of bytes: the program's, by a table; a sector's cell.
-/
import Derived.Test.YtpimbaphenignaaVa
import Derived.Test.YtpimbaphenignaaUp
import Derived.Test.YtpimbaphenignaaRg
import Derived.Test.YtpimbaphenignaaTx
namespace Go.Proofs.Ytpimbaphenignaa
open Go Go.Sl Go.IntWalk
set_option maxHeartbeats 4000000
set_option maxRecDepth 20000
set_option linter.unusedVariables false
theorem sgAll (l : List Value) : seg? l 0 l.length = some l := by rw [seg?_of _ _ _ (by omega)]; simp
theorem spAll {l vs : List Value} (h : vs.length = l.length) : splice? l 0 vs = some vs := by rw [splice?_of _ _ _ (by omega)]; simp [h]
theorem u32n {r : Nat} (h : r < 2 ^ 32) : IntKind.u32.wrap (r : Int) = (r : Int) := u32_in _ (by omega)
theorem u8n {r : Nat} (h : r < 256) : IntKind.u8.wrap (r : Int) = (r : Int) := u8_in _ (by omega)
theorem u8mod (x : Nat) : IntKind.u8.wrap (x : Int) = ((x % 256 : Nat) : Int) := by rw [IntKind.wrap_u8]; omega
theorem cstep_mul (x : Nat) : (x / 2 ^ 1) ^^^ (poly * (x &&& 1)) = cstep x := by
  rw [Nat.and_one_is_mod]
  unfold cstep
  rcases Nat.mod_two_eq_zero_or_one x with h | h <;> rw [h]
  · rw [if_neg (by decide), Nat.mul_zero, Nat.xor_zero]
  · rw [if_pos rfl, Nat.mul_one]
theorem csteps_snoc (k x : Nat) : csteps (k + 1) x = cstep (csteps k x) := by rw [csteps_add]; rfl
def trow (i : Nat) : List Value := (List.range i).map (fun c => Value.int .u32 (crow c : Int)) ++ List.replicate (256 - i) (.int .u32 0)
theorem trow_len {i : Nat} (h : i ≤ 256) : (trow i).length = 256 := by simp [trow]; omega
theorem trow_next {i : Nat} (h : i < 256) : splice? (trow i) (0 + i * 1) [.int .u32 (crow i : Int)] = some (trow (i + 1)) := by
  have hl := trow_len (Nat.le_of_lt h)
  rw [splice?_of _ _ _ (by simp [hl]; omega)]
  congr 1
  have e1 : (trow i).take (0 + i * 1) = (List.range i).map (fun c => Value.int .u32 (crow c : Int)) := by
    unfold trow
    rw [List.take_append_of_le_length (by simp)]
    rw [List.take_of_length_le (by simp)]
  have e2 : (trow i).drop (0 + i * 1 + 1) = List.replicate (256 - (i + 1)) (.int .u32 0) := by
    unfold trow
    rw [List.drop_append, List.drop_of_length_le (by simp), List.nil_append, List.drop_replicate]
    congr 1
    simp
    omega
  rw [e1, show [Value.int IntKind.u32 ↑(crow i)].length = 1 from rfl, e2]
  unfold trow
  rw [List.range_succ, List.map_append]
  rfl
theorem trow_at {i : Nat} (h : i < 256) : (trow 256)[0 + i * 1]? = some (.int .u32 (crow i : Int)) := by
  unfold trow
  rw [List.getElem?_append_left (by simp; omega)]
  simp [h]
theorem allOne_u32 : ∀ l : List Value, (∀ v ∈ l, ∃ x, v = Value.int .u32 x) → allOne l = true := fun l h => allOne_of fun v hv => by obtain ⟨x, rfl⟩ := h v hv; rfl
theorem trow_one : allOne (trow 256) = true := allOne_u32 _ fun v hv => by
  simp only [trow, Nat.sub_self, List.replicate_zero, List.append_nil, List.mem_map] at hv
  obtain ⟨c, -, rfl⟩ := hv
  exact ⟨_, rfl⟩
theorem trow_zero : ZeroOf Try.prog 114 (.agg (trow 0).toArray) := fun w => by
  have := Try.zeroValue114 w
  rw [this]
  rfl
theorem table_spec : Ctr Try.prog 79 [] [] [] (fun v L' => v = .agg (trow 256).toArray ∧ L' = []) := by
  have hnew : ∀ {n : Nat} {R : HL} {cx : Cx} {ty : Nat} {ρ : Env} {L : List HL}, NewOf Try.prog n R cx (.alloc 114) ty ρ L (.cells (trow 0).toArray 114 (0, 0)) (fun b => .pointer (some ⟨b, 0, none⟩)) := NewOf.alloc trow_zero rfl
  have l256 := trow_len (i := 256) (Nat.le_refl _)
  refine Ctr.enter (n := 25) [.cell 0 114] [] Try.func79 rfl rfl rfl (lb rfl) Try.call79 trivial ?_
  intro cx fin fin0
  refine aG ?_
  refine aW (hnew) ?_
  intro _
  refine aG ?_
  rename_i b0
  refine aW (hnew) ?_
  intro _
  refine aG ?_
  rename_i b1
  refine aLp (fun k ρ1 L1 => ∃ i : Nat, i ≤ 256 ∧ k = 256 - i ∧ ρ1 = [(5, .int .i64 (i : Int)), (1, .pointer (some ⟨b1, 0, none⟩)), (0, .pointer (some ⟨b0, 0, none⟩))] ∧ L1 = [[(b1, .cells (trow i).toArray 114 (0, 0))], [(b0, .cells (trow 0).toArray 114 (0, 0))]]) (o := ⟨0, by decide, rfl, rfl, rfl⟩) (h := ?_)
  rintro k ρ1 L1 ⟨i, hi, rfl, rfl, rfl⟩
  refine aG ?_
  by_cases hlt : i < 256
  · have hz1 : (i : Int) < 256 := by omega
    repeat (first | refine gh hz1 ?_ | refine gN fun _ => ?_ | refine gB fun _ => ?_ | fail)
    refine aV (OpVal.conv tab_ok rfl rfl rfl (u32n (by omega))) ?_
    refine aLp (fun k ρ1 L1 => ∃ j : Nat, j ≤ 8 ∧ k = 8 - j ∧ ρ1 = [(10, .int .i64 (j : Int)), (3, .int .u32 (csteps j i : Int)), (2, .int .i64 (i : Int)), (5, .int .i64 (i : Int)), (1, .pointer (some ⟨b1, 0, none⟩)), (0, .pointer (some ⟨b0, 0, none⟩))] ∧ L1 = [[(b1, .cells (trow i).toArray 114 (0, 0))], [(b0, .cells (trow 0).toArray 114 (0, 0))]]) (o := ⟨0, by decide, rfl, rfl, rfl⟩) (h := ?_)
    rintro k ρ1 L1 ⟨j, hj, rfl, rfl, rfl⟩
    refine aG ?_
    by_cases hlt2 : j < 8
    · have hz2 : (j : Int) < 8 := by omega
      have hb := csteps_lt j (x := i) (by omega)
      have hm : csteps j i &&& 1 = csteps j i % 2 := Nat.and_one_is_mod _
      have hc := cstep_mul (csteps j i)
      rw [← csteps_snoc] at hc
      generalize csteps j i = x at *
      repeat (first | refine gh hz2 ?_ | refine gN fun _ => ?_ | refine gB fun _ => ?_ | fail)
      refine aV (OpVal.bitsN (a := x) (b := 1) (r := x &&& 1) rfl rfl rfl rfl hb (by decide) (u32n (by omega)).symm (.inr (.inl ⟨rfl, rfl⟩))) ?_
      refine aV (OpVal.shrN (a := x) (c := 1) rfl rfl) ?_
      refine aV (OpVal.mul (r := ((poly * (x &&& 1) : Nat) : Int)) rfl rfl (by rw [← u32n (r := poly * (x &&& 1)) (by have := poly_lt; rcases Nat.mod_two_eq_zero_or_one x with h | h <;> rw [hm, h] <;> omega)]; rfl)) ?_
      refine aV (OpVal.xor32 (a := x / 2 ^ 1) (b := poly * (x &&& 1)) rfl rfl (by omega) (by have := poly_lt; rcases Nat.mod_two_eq_zero_or_one x with h | h <;> rw [hm, h] <;> omega)) ?_
      rw [hc]
      repeat (first | refine gh hz2 ?_ | refine gN fun _ => ?_ | refine gB fun _ => ?_ | fail)
      refine aR (o := ⟨8 - (j + 1), by omega, j + 1, by omega, rfl, rfl, rfl⟩)
    · obtain rfl : j = 8 := by omega
      repeat (first | refine gx ?_ | refine gN fun _ => ?_ | refine gB fun _ => ?_ | fail)
      refine aV (OpVal.indexAr (j := i) rfl rfl Try.underlying114 ty_88.2 rfl hlt) ?_
      refine W.store tab_ok rfl Upd.here rfl rfl rfl rfl rfl (trow_next hlt) (aG ?_)
      repeat (first | refine gx ?_ | refine gN fun _ => ?_ | refine gB fun _ => ?_ | fail)
      refine aR (o := ⟨256 - (i + 1), by omega, i + 1, by omega, rfl, rfl, rfl⟩)
  · obtain rfl : i = 256 := by omega
    refine aF ?_
    refine aV (OpVal.loadN ty_114.1 ty_114.2 rfl (at_own 0 rfl) (by rw [← l256]; exact sgAll _)) ?_
    refine W.store tab_ok rfl (Upd.there Upd.here) rfl rfl rfl l256 trow_one (spAll (by rw [trow_len (i := 0) (by decide)]; exact l256)) (aG ?_)
    refine W.ret (fin _ _ (FinOk.first 0 (ResOk.cellN (us := trow 256) ty_114.1 ty_114.2 rfl (at_own 1 rfl) (by rw [← l256]; exact sgAll _) .nil) rfl ?_))
    exact ⟨rfl, rfl⟩
/-- The check of bytes. -/
def crcI (bs : List Int) : Nat := crcNat (bs.map Int.toNat)
theorem nats_ok {bs : List Int} (h : u8ok bs) : ∀ c ∈ bs.map Int.toNat, c < 256 := fun c hc => by
  obtain ⟨x, hx, rfl⟩ := List.mem_map.1 hc
  have := h x hx
  omega
def crcAt (bs : List Int) (j : Nat) : Nat := crcFrom 4294967295 ((bs.take j).map Int.toNat)
theorem crcAt_lt {bs : List Int} (h : u8ok bs) (j : Nat) : crcAt bs j < 2 ^ 32 := crcFrom_lt (by decide) (nats_ok fun x hx => h x (List.mem_of_mem_take hx))
theorem crcAt_next {bs : List Int} {j : Nat} (hj : j < bs.length) : crcAt bs (j + 1) = csteps 8 (crcAt bs j ^^^ bs[j].toNat) := by
  unfold crcAt
  rw [List.take_add_one, List.getElem?_eq_getElem hj, Option.toList_some, List.map_append, crcFrom_append]
  rfl
theorem crcAt_all (bs : List Int) : crcI bs = 4294967295 - crcAt bs bs.length := by unfold crcI crcNat crcAt; rw [List.take_length]
theorem More_spec (bs : List Int) (hu : u8ok bs) (a : Option Addr) (cap : Nat) (ro : HL) (hro : RoSl 1 (u8s bs) a bs.length ro) (hl : bs.length ≤ 1000000) :
    Ctr Try.prog 72 [.int .u32 0, .slice a bs.length cap] [] ro (fun v L' => v = .int .u32 (crcI bs : Int) ∧ L' = []) := by
  have hnew : ∀ {n : Nat} {R : HL} {cx : Cx} {ty : Nat} {ρ : Env} {L : List HL}, NewOf Try.prog n R cx (.alloc 114) ty ρ L (.cells (trow 0).toArray 114 (0, 0)) (fun b => .pointer (some ⟨b, 0, none⟩)) := NewOf.alloc trow_zero rfl
  have l256 := trow_len (i := 256) (Nat.le_refl _)
  refine Ctr.enter (n := 29) [.tmp 4] [(0, _), (1, _)] Try.func72 rfl rfl rfl (lb rfl) Try.call72 ⟨rfl, rfl, trivial⟩ ?_
  intro cx fin fin0
  refine aG ?_
  refine aC (o := table_spec) (h := ?_)
  rintro _ _ ⟨rfl, rfl⟩
  refine aG ?_
  refine aW (hnew) ?_
  intro _
  refine aG ?_
  rename_i b5
  refine aG ?_
  refine W.store tab_ok rfl Upd.here rfl rfl rfl l256 trow_one (spAll (by rw [trow_len (i := 0) (by decide)]; exact l256)) (aG ?_)
  refine aV (OpVal.not32 (a := 0) rfl (by decide)) ?_
  refine aLp (fun k ρ1 L1 => ∃ j : Nat, j ≤ bs.length ∧ k = bs.length - j ∧ ρ1 = [(13, .int .i64 (j : Int)), (12, .int .i64 (bs.length : Int)), (11, .slice a bs.length cap), (5, .pointer (some ⟨b5, 0, none⟩)), (0, .int .u32 (crcAt bs j : Int))] ∧ L1 = [[(b5, .cells (trow 256).toArray 114 (0, 0))]]) (o := ⟨0, Nat.zero_le _, rfl, rfl, rfl⟩) (h := ?_)
  rintro k ρ1 L1 ⟨j, hj, rfl, rfl, rfl⟩
  refine aG ?_
  by_cases hlt : j < bs.length
  · have hz : (j : Int) < (bs.length : Int) := by omega
    have hb := crcAt_lt hu j
    have hnx := crcAt_next hlt
    have huj := hu _ (List.getElem_mem hlt)
    obtain ⟨bx, ox, lx, ex, frx, rfl, rfl, -, hld⟩ := RoSl.at (f := fun x : Int => [Value.int .u8 x]) (m := 1) (fun _ => rfl) hro hlt
    have l0 : lx[ox + j * 1]? = some (.int .u8 bs[j]) := hld 0 (by decide)
    generalize hcj : bs[j] = c at *
    obtain ⟨c, rfl⟩ : ∃ d : Nat, c = (d : Int) := ⟨c.toNat, by omega⟩
    have hcb := crc_byte (crcAt bs j) c (by omega)
    rw [Int.toNat_natCast] at hnx
    rw [← hnx] at hcb
    generalize crcAt bs j = x at *
    have hxc : (x % 256) ^^^ c < 256 := Nat.xor_lt_two_pow (n := 8) (Nat.mod_lt _ (by decide)) (by omega)
    repeat (first | refine gh hz ?_ | refine gN fun _ => ?_ | refine gB fun _ => ?_ | fail)
    refine aV (OpVal.ixI tab_ok rfl rfl rfl rfl rfl hlt) ?_
    refine aV (OpVal.load tab_ok rfl (show At _ _ bx (.cells lx.toArray ex frx) from .inr (by simp)) l0) ?_
    refine aV (OpVal.shrN (a := x) (c := 8) rfl rfl) ?_
    refine aV (OpVal.conv tab_ok rfl rfl rfl (u8mod x)) ?_
    refine aV (OpVal.bitsN (a := x % 256) (b := c) (r := (x % 256) ^^^ c) rfl rfl rfl rfl (Nat.mod_lt _ (by decide)) (show c < 256 by omega) (u8n hxc).symm (.inl ⟨rfl, rfl⟩)) ?_
    refine aV (OpVal.indexAr (j := (x % 256) ^^^ c) rfl rfl Try.underlying114 ty_88.2 rfl hxc) ?_
    refine aV (OpVal.load1 ty_88.1 rfl (at_own 0 rfl) (trow_at hxc)) ?_
    refine aV (OpVal.xor32 (a := x / 2 ^ 8) (b := crow ((x % 256) ^^^ c)) rfl rfl (by omega) (csteps_lt 8 (by omega))) ?_
    rw [show x / 2 ^ 8 ^^^ crow (x % 256 ^^^ c) = crcAt bs (j + 1) from hcb.symm]
    repeat (first | refine gh hz ?_ | refine gN fun _ => ?_ | refine gB fun _ => ?_ | fail)
    refine aR (o := ⟨bs.length - (j + 1), by omega, j + 1, by omega, rfl, rfl, rfl⟩)
  · obtain rfl : j = bs.length := by omega
    repeat (first | refine gx ?_ | refine gN fun _ => ?_ | refine gB fun _ => ?_ | fail)
    refine aV (OpVal.not32 (a := crcAt bs bs.length) rfl (crcAt_lt hu _)) ?_
    rw [xor_all (crcAt_lt hu _), ← crcAt_all]
    repeat (first | refine gx ?_ | refine gN fun _ => ?_ | refine gB fun _ => ?_ | fail)
    refine W.ret (fin _ _ (FinOk.mk' ([]) (.tmp rfl .nil) (by repeat (first | exact Sel.nil | (apply Sel.cons; (repeat (first | exact Pick.here | apply Pick.there))))) rfl ?_))
    exact ⟨rfl, rfl⟩
end Go.Proofs.Ytpimbaphenignaa
