/-
  What the functions of the layer of counters compute: contracts of count.Name, of, together, Add, Get, and of the document's answer.
-/
import Derived.Test.YtgipjpiiomgjjaaAp
namespace Go.Proofs.Ytgipjpiiomgjjaa
open Go Go.Sl Go.IntWalk
set_option maxHeartbeats 1000000
def nameOf (k : Int) : ByteArray :=
  if k = 0 then ⟨#[104, 105, 116, 115]⟩ else if k = 1 then ⟨#[109, 105, 115, 115, 101, 115]⟩ else if k = 2 then ⟨#[101, 118, 105, 99, 116, 115]⟩ else if k = 3 then ⟨#[114, 101, 97, 100, 115]⟩
  else if k = 4 then ⟨#[119, 114, 105, 116, 101, 115]⟩ else if k = 5 then ⟨#[102, 97, 105, 108, 115]⟩ else ⟨#[]⟩
def inKind (k : Int) : Bool := decide (0 ≤ k ∧ k < 6)
/-! ### Two numbers together -/
def tog (a b : Int) : Int := if a + b < 18446744073709551616 then a + b else 18446744073709551615
theorem tog_range {a b : Int} (ha : 0 ≤ a ∧ a < 18446744073709551616) (hb : 0 ≤ b ∧ b < 18446744073709551616) : 0 ≤ tog a b ∧ tog a b < 18446744073709551616 := by
  unfold tog; split <;> omega

/-! ### Counts: six numbers -/
structure C6 where
  (h m e r w f : Int)
  deriving DecidableEq
def C6.l (c : C6) : List Value := [.int .u64 c.h, .int .u64 c.m, .int .u64 c.e, .int .u64 c.r, .int .u64 c.w, .int .u64 c.f]
def C6.v (c : C6) : Value := .agg #[.int .u64 c.h, .int .u64 c.m, .int .u64 c.e, .int .u64 c.r, .int .u64 c.w, .int .u64 c.f]
def u64 (a : Int) : Prop := 0 ≤ a ∧ a < 18446744073709551616
def C6.Ok (c : C6) : Prop := u64 c.h ∧ u64 c.m ∧ u64 c.e ∧ u64 c.r ∧ u64 c.w ∧ u64 c.f
def C6.add (c : C6) (k : Int) (n : Int) : C6 :=
  if k = 0 then { c with h := tog c.h n } else if k = 1 then { c with m := tog c.m n } else if k = 2 then { c with e := tog c.e n }
  else if k = 3 then { c with r := tog c.r n } else if k = 4 then { c with w := tog c.w n } else if k = 5 then { c with f := tog c.f n } else c
def C6.get (c : C6) (k : Int) : Int × Bool :=
  if k = 0 then (c.h, true) else if k = 1 then (c.m, true) else if k = 2 then (c.e, true) else if k = 3 then (c.r, true) else if k = 4 then (c.w, true) else if k = 5 then (c.f, true) else (0, false)
theorem C6.add_ok {c : C6} (hc : c.Ok) (k : Int) {n : Int} (hn : u64 n) : (c.add k n).Ok := by
  obtain ⟨h1, h2, h3, h4, h5, h6⟩ := hc
  unfold C6.add
  repeat' split
  all_goals exact ⟨by first | exact tog_range h1 hn | assumption, by first | exact tog_range h2 hn | assumption, by first | exact tog_range h3 hn | assumption, by first | exact tog_range h4 hn | assumption,
    by first | exact tog_range h5 hn | assumption, by first | exact tog_range h6 hn | assumption⟩
theorem C6.get_u64 {c : C6} (hc : c.Ok) (k : Int) : u64 (c.get k).1 := by
  obtain ⟨h1, h2, h3, h4, h5, h6⟩ := hc
  unfold C6.get
  repeat' split
  all_goals first | assumption | exact ⟨by decide, by decide⟩
theorem kinds {k : Int} (h : 0 ≤ k ∧ k < 6) : k = ((0 : Nat) : Int) ∨ k = ((1 : Nat) : Int) ∨ k = ((2 : Nat) : Int) ∨ k = ((3 : Nat) : Int) ∨ k = ((4 : Nat) : Int) ∨ k = ((5 : Nat) : Int) := by omega
end Go.Proofs.Ytgipjpiiomgjjaa
