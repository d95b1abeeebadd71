/-
  The check of bytes, bit by bit and by a table: plain.
-/
import Derived.Test.YtpimbaphenignaaTab
namespace Go.Proofs.Ytpimbaphenignaa
def poly : Nat := 3988292384
def cstep (x : Nat) : Nat := if x % 2 = 1 then (x / 2) ^^^ poly else x / 2
def csteps : Nat → Nat → Nat
  | 0, x => x
  | k + 1, x => csteps k (cstep x)
theorem csteps_add (a b x : Nat) : csteps (a + b) x = csteps b (csteps a x) := by
  induction a generalizing x with
  | zero => rw [Nat.zero_add]; rfl
  | succ a ih => rw [Nat.succ_add]; exact ih (cstep x)
theorem cstep_xor (a b : Nat) : cstep (a ^^^ b) = cstep a ^^^ cstep b := by
  have h2 : (a ^^^ b) / 2 = a / 2 ^^^ b / 2 := Nat.xor_div_two
  have h1 : (a ^^^ b) % 2 = (a % 2) ^^^ (b % 2) := Nat.xor_mod_two_pow (n := 1)
  unfold cstep
  rw [h1, h2]
  rcases Nat.mod_two_eq_zero_or_one a with ha | ha <;> rcases Nat.mod_two_eq_zero_or_one b with hb | hb <;> rw [ha, hb]
  · rfl
  · rw [if_pos (by decide), if_neg (by decide), if_pos rfl, Nat.xor_assoc]
  · rw [if_pos (by decide), if_pos rfl, if_neg (by decide), Nat.xor_assoc, Nat.xor_assoc, Nat.xor_comm poly]
  · rw [if_neg (by decide), if_pos rfl, if_pos rfl, Nat.xor_assoc, Nat.xor_comm poly, Nat.xor_assoc, Nat.xor_self, Nat.xor_zero]
theorem csteps_xor (k a b : Nat) : csteps k (a ^^^ b) = csteps k a ^^^ csteps k b := by
  induction k generalizing a b with
  | zero => rfl
  | succ k ih => show csteps k (cstep (a ^^^ b)) = _; rw [cstep_xor, ih]; rfl
theorem cstep_even (m : Nat) : cstep (2 * m) = m := by
  unfold cstep
  rw [if_neg (by omega)]
  omega
theorem csteps_even (q : Nat) : csteps 8 (256 * q) = q := by
  have e : 256 * q = 2 * (2 * (2 * (2 * (2 * (2 * (2 * (2 * q))))))) := by omega
  rw [e]
  simp only [csteps, cstep_even]
theorem poly_lt : poly < 2 ^ 32 := by decide
theorem cstep_lt {x : Nat} (h : x < 2 ^ 32) : cstep x < 2 ^ 32 := by
  unfold cstep
  split
  · exact Nat.xor_lt_two_pow (by omega) poly_lt
  · omega
theorem csteps_lt : ∀ (k : Nat) {x : Nat}, x < 2 ^ 32 → csteps k x < 2 ^ 32
  | 0, _, h => h
  | k + 1, _, h => csteps_lt k (cstep_lt h)
/-- A byte's row of the table. -/
def crow (c : Nat) : Nat := csteps 8 c
theorem split256 (y : Nat) : y = (256 * (y / 256)) ^^^ (y % 256) := by
  have h : 256 * (y / 256) + y % 256 = y := by omega
  have h2 : 2 ^ 8 * (y / 256) + y % 256 = 2 ^ 8 * (y / 256) ||| y % 256 := Nat.two_pow_add_eq_or_of_lt (by omega) _
  apply Nat.eq_of_testBit_eq
  intro i
  rw [Nat.testBit_xor]
  conv => lhs; rw [← h]
  have h3 : 256 * (y / 256) + y % 256 = 256 * (y / 256) ||| y % 256 := h2
  rw [h3, Nat.testBit_or]
  have h4 : (256 * (y / 256)).testBit i = (decide (8 ≤ i) && (y / 256).testBit (i - 8)) := by
    have := Nat.testBit_two_pow_mul (a := y / 256) (i := 8) (j := i)
    simpa using this
  have h5 : (y % 256).testBit i = (decide (i < 8) && y.testBit i) := by
    have := Nat.testBit_mod_two_pow y 8 i
    simpa using this
  rw [h4, h5]
  by_cases hi : i < 8
  · simp [hi, show ¬ 8 ≤ i by omega]
  · simp [hi]
theorem csteps_row (y : Nat) : csteps 8 y = (y / 256) ^^^ crow (y % 256) := by
  conv => lhs; rw [split256 y]
  rw [csteps_xor, csteps_even]
  rfl
/-- One more byte, as the table has it. -/
theorem crc_byte (x c : Nat) (hc : c < 256) : csteps 8 (x ^^^ c) = (x / 256) ^^^ crow ((x % 256) ^^^ c) := by
  rw [csteps_row]
  have h1 : (x ^^^ c) / 256 = x / 256 := by
    have := Nat.xor_div_two_pow (a := x) (b := c) (n := 8)
    rw [show (2 : Nat) ^ 8 = 256 from rfl] at this
    rw [this, Nat.div_eq_of_lt hc, Nat.xor_zero]
  have h2 : (x ^^^ c) % 256 = (x % 256) ^^^ c := by
    have := Nat.xor_mod_two_pow (a := x) (b := c) (n := 8)
    rw [show (2 : Nat) ^ 8 = 256 from rfl] at this
    rw [this, Nat.mod_eq_of_lt hc]
  rw [h1, h2]
theorem xor_all {n : Nat} (h : n < 2 ^ 32) : 4294967295 ^^^ n = 4294967295 - n := by
  have h1 : (BitVec.allOnes 32 ^^^ BitVec.ofNat 32 n).toNat = 4294967295 - n := by
    rw [BitVec.allOnes_xor, BitVec.toNat_not, BitVec.toNat_ofNat, Nat.mod_eq_of_lt h]
  rw [BitVec.toNat_xor, BitVec.toNat_allOnes, BitVec.toNat_ofNat, Nat.mod_eq_of_lt h] at h1
  exact h1
/-- The check, of bytes that are numbers. -/
def crcFrom : Nat → List Nat → Nat
  | x, [] => x
  | x, c :: l => crcFrom (csteps 8 (x ^^^ c)) l
def crcNat (l : List Nat) : Nat := 4294967295 - crcFrom 4294967295 l
theorem crcFrom_append (x : Nat) (a b : List Nat) : crcFrom x (a ++ b) = crcFrom (crcFrom x a) b := by
  induction a generalizing x with
  | nil => rfl
  | cons c l ih => exact ih _
theorem crcFrom_lt : ∀ {l : List Nat} {x : Nat}, x < 2 ^ 32 → (∀ c ∈ l, c < 256) → crcFrom x l < 2 ^ 32
  | [], _, h, _ => h
  | c :: l, x, h, hl => crcFrom_lt (l := l) (csteps_lt 8 (Nat.xor_lt_two_pow h (Nat.lt_of_lt_of_le (hl c (by simp)) (by decide)))) fun d hd => hl d (by simp [hd])
/-! One byte that is another one gives another check. -/
theorem xor_left_inj {a b c : Nat} (h : a ^^^ c = b ^^^ c) : a = b := by
  have := congrArg (· ^^^ c) h
  simp only [Nat.xor_assoc, Nat.xor_self, Nat.xor_zero] at this
  exact this
theorem odd_big {m : Nat} (h : m < 2 ^ 31) : 2 ^ 31 ≤ m ^^^ poly := by
  have h1 : (m ^^^ poly).testBit 31 = true := by
    rw [Nat.testBit_xor, Nat.testBit_lt_two_pow h]
    decide
  exact Nat.ge_two_pow_of_testBit h1
theorem cstep_inj {a b : Nat} (ha : a < 2 ^ 32) (hb : b < 2 ^ 32) (h : cstep a = cstep b) : a = b := by
  unfold cstep at h
  have h1 := odd_big (m := a / 2) (by omega)
  have h2 := odd_big (m := b / 2) (by omega)
  split at h <;> split at h
  · have := xor_left_inj h
    omega
  · omega
  · omega
  · omega
theorem csteps_inj : ∀ (k : Nat) {a b : Nat}, a < 2 ^ 32 → b < 2 ^ 32 → csteps k a = csteps k b → a = b
  | 0, _, _, _, _, h => h
  | k + 1, _, _, ha, hb, h => cstep_inj ha hb (csteps_inj k (cstep_lt ha) (cstep_lt hb) h)
theorem crcFrom_inj : ∀ (l : List Nat) {a b : Nat}, (∀ c ∈ l, c < 256) → a < 2 ^ 32 → b < 2 ^ 32 → crcFrom a l = crcFrom b l → a = b
  | [], _, _, _, _, _, h => h
  | c :: l, a, b, hl, ha, hb, h => by
    have hc : c < 2 ^ 32 := Nat.lt_of_lt_of_le (hl c (by simp)) (by decide)
    have hx := Nat.xor_lt_two_pow ha hc
    have hy := Nat.xor_lt_two_pow hb hc
    have := crcFrom_inj l (fun d hd => hl d (by simp [hd])) (csteps_lt 8 hx) (csteps_lt 8 hy) h
    exact xor_left_inj (csteps_inj 8 hx hy this)
theorem crcNat_other {p s : List Nat} {c d : Nat} (hp : ∀ x ∈ p, x < 256) (hs : ∀ x ∈ s, x < 256) (hc : c < 256) (hd : d < 256) (hne : c ≠ d) : crcNat (p ++ c :: s) ≠ crcNat (p ++ d :: s) := by
  intro h
  have hst := crcFrom_lt (l := p) (x := 4294967295) (by decide) hp
  have l1 := crcFrom_lt (l := p ++ c :: s) (x := 4294967295) (by decide) (fun x hx => by rcases List.mem_append.1 hx with h | h; exact hp x h; rcases List.mem_cons.1 h with rfl | h; exact hc; exact hs x h)
  have l2 := crcFrom_lt (l := p ++ d :: s) (x := 4294967295) (by decide) (fun x hx => by rcases List.mem_append.1 hx with h | h; exact hp x h; rcases List.mem_cons.1 h with rfl | h; exact hd; exact hs x h)
  unfold crcNat at h
  have h2 : crcFrom 4294967295 (p ++ c :: s) = crcFrom 4294967295 (p ++ d :: s) := by omega
  rw [crcFrom_append, crcFrom_append] at h2
  generalize crcFrom 4294967295 p = x at *
  have hx := Nat.xor_lt_two_pow hst (Nat.lt_of_lt_of_le hc (show 256 ≤ 2 ^ 32 by decide))
  have hy := Nat.xor_lt_two_pow hst (Nat.lt_of_lt_of_le hd (show 256 ≤ 2 ^ 32 by decide))
  have h3 := csteps_inj 8 hx hy (crcFrom_inj s hs (csteps_lt 8 hx) (csteps_lt 8 hy) h2)
  rw [Nat.xor_comm x c, Nat.xor_comm x d] at h3
  exact hne (xor_left_inj h3)
end Go.Proofs.Ytpimbaphenignaa
