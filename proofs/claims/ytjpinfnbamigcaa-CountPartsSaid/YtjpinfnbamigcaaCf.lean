/-
  The laws CountRow and CountParts, as contracts: counters that hold at the top may be added up in any order.
-/
import Derived.Test.YtjpinfnbamigcaaOpen
import Derived.Test.YtjpinfnbamigcaaSd
namespace Go.Proofs.Ytjpinfnbamigcaa
open Go Go.Sl Go.IntWalk
set_option maxHeartbeats 2000000
/-! ### Adding up, in plain Lean -/
theorem tog_comm2 (a b c : Int) (hb : 0 ≤ b) (hc : 0 ≤ c) : tog (tog a b) c = tog (tog a c) b := by
  unfold tog; repeat' split
  all_goals omega
theorem tog_assoc (a b c : Int) (ha : u64 a) (hb : u64 b) (hc : u64 c) : tog (tog a b) c = tog a (tog b c) := by
  unfold u64 at *
  unfold tog; repeat' split
  all_goals omega
theorem tog_ge (a v : Int) (ha : u64 a) (hv : u64 v) : a ≤ tog a v := by
  unfold u64 at *
  unfold tog; split <;> omega
theorem add_comm (c : C6) (k k' v v' : Int) (hv : 0 ≤ v) (hv' : 0 ≤ v') : (c.add k v).add k' v' = (c.add k' v').add k v := by
  have key : ∀ (x : Int), tog (tog x v) v' = tog (tog x v') v := fun x => tog_comm2 x v v' hv hv'
  have dk : ∀ k : Int, k = 0 ∨ k = 1 ∨ k = 2 ∨ k = 3 ∨ k = 4 ∨ k = 5 ∨ (k ≠ 0 ∧ k ≠ 1 ∧ k ≠ 2 ∧ k ≠ 3 ∧ k ≠ 4 ∧ k ≠ 5) := by intro k; omega
  rcases dk k with rfl | rfl | rfl | rfl | rfl | rfl | h <;> rcases dk k' with rfl | rfl | rfl | rfl | rfl | rfl | h' <;> simp [C6.add, key, *]
def addP (c : C6) (p : Int × Int) : C6 := c.add p.1 p.2
def PsOk (ps : List (Int × Int)) : Prop := ∀ p ∈ ps, (0 ≤ p.1 ∧ p.1 < 6) ∧ u64 p.2
theorem fold_ok {c : C6} (hc : c.Ok) {ps : List (Int × Int)} (h : PsOk ps) : (ps.foldl addP c).Ok := by
  induction ps generalizing c with
  | nil => exact hc
  | cons p ps ih => exact ih (C6.add_ok hc _ (h p (by simp)).2) (fun q hq => h q (by simp [hq]))
theorem fold_rev (c : C6) {ps : List (Int × Int)} (h : PsOk ps) : ps.reverse.foldl addP c = ps.foldl addP c :=
  List.Perm.foldl_eq' (List.reverse_perm ps) (fun x hx y hy z => by
    have h1 := (h x (List.mem_reverse.1 hx)).2.1
    have h2 := (h y (List.mem_reverse.1 hy)).2.1
    exact add_comm z _ _ _ _ h1 h2) c
def prs (ks vs : List Int) (n : Nat) : List (Int × Int) := (List.range n).map fun j => (around (ks.getD j 0) 6, vs.getD j 0)
theorem prs_len (ks vs : List Int) (n : Nat) : (prs ks vs n).length = n := by simp [prs]
theorem prs_ok {ks vs : List Int} {n : Nat} (hn : n ≤ vs.length) (hv : ∀ v ∈ vs, u64 v) : PsOk (prs ks vs n) := by
  intro p hp
  obtain ⟨j, hj, rfl⟩ := List.mem_map.1 hp
  have hj' : j < n := List.mem_range.1 hj
  refine ⟨around_range _ 6 (by decide), ?_⟩
  simp only [List.getD_eq_getElem?_getD, List.getElem?_eq_getElem (show j < vs.length by omega), Option.getD_some]
  exact hv _ (List.getElem_mem _)
theorem prs_next {ks vs : List Int} {n i : Nat} (c : C6) (hi : i < n) : ((prs ks vs n).take (i + 1)).foldl addP c = (((prs ks vs n).take i).foldl addP c).add (around (ks.getD i 0) 6) (vs.getD i 0) := by
  rw [List.take_add_one, List.foldl_append]
  simp [prs, hi, addP]
theorem prs_back {ks vs : List Int} {n i : Nat} (c : C6) (hi : i < n) : ((prs ks vs n).reverse.take (i + 1)).foldl addP c = (((prs ks vs n).reverse.take i).foldl addP c).add (around (ks.getD (n - 1 - i) 0) 6) (vs.getD (n - 1 - i) 0) := by
  rw [List.take_add_one, List.foldl_append]
  have h1 : (prs ks vs n).reverse[i]? = some (around (ks.getD (n - 1 - i) 0) 6, vs.getD (n - 1 - i) 0) := by
    rw [List.getElem?_reverse (by rw [prs_len]; exact hi), prs_len]
    have : n - 1 - i < n := by omega
    simp [prs, this]
  simp [h1, addP]
theorem ro_at {f : Int → Value} {l : List Value} {off : Nat} {xs : List Int} (hl : off + xs.length * 1 ≤ l.length) (h : (l.drop off).take (xs.length * 1) = xs.flatMap (fun x => [f x])) {i : Nat} (hi : i < xs.length) :
    l[off + i * 1]? = some (f (xs.getD i 0)) := by
  have h1 := RoSl.elem (f := fun x => [f x]) (m := 1) (fun _ => rfl) hl h hi
  obtain ⟨h2, h3⟩ := seg?_eq _ _ _ h1
  have h4 := congrArg (fun l => l[0]?) h3
  simp only [List.getElem?_cons_zero] at h4
  rw [List.getElem?_take, if_pos (by decide), List.getElem?_drop] at h4
  rw [List.getD_eq_getElem?_getD, List.getElem?_eq_getElem hi, Option.getD_some]
  simpa using h4.symm
def i64s (a : Int) : Prop := -9223372036854775808 ≤ a ∧ a ≤ 9223372036854775807
theorem getD_mem {xs : List Int} {i : Nat} (hi : i < xs.length) {Q : Int → Prop} (h : ∀ x ∈ xs, Q x) : Q (xs.getD i 0) := by
  rw [List.getD_eq_getElem?_getD, List.getElem?_eq_getElem hi, Option.getD_some]
  exact h _ (List.getElem_mem hi)

theorem CountRow_spec (c : C6) (hc : c.Ok) (ks : List Int) (hk : ∀ x ∈ ks, i64s x) (ak : Option Addr) (ck : Nat) (rk : HL) (hrk : RoSl 1 (ks.flatMap fun x => [.int .i64 x]) ak ks.length rk)
    (vs : List Int) (hv : ∀ x ∈ vs, u64 x) (av : Option Addr) (cv : Nat) (rv : HL) (hrv : RoSl 1 (vs.flatMap fun x => [.int .u64 x]) av vs.length rv) :
    Ctr Try.prog 5 [c.v, .slice ak ks.length ck, .slice av vs.length cv] [] (rk ++ rv) (fun v L' => v = .bool true ∧ L' = []) := by
  refine Ctr.enter (n := 84) [.tmp 6] [(0, _), (1, _), (2, _)] Try.func5 rfl rfl rfl (Nat.le_of_ble_eq_true rfl) Try.call5 ⟨rfl, rfl, rfl, trivial⟩ ?_
  intro cx fin fin0
  refine W.step tab_ok rfl rfl ?_
  repeat (first | refine W.val (OpVal.load tab_ok rfl (at_own 0 rfl) rfl) (by decide) (W.step tab_ok rfl rfl ?_) | refine W.val (OpVal.load tab_ok rfl (at_own 1 rfl) rfl) (by decide) (W.step tab_ok rfl rfl ?_) | refine W.val (OpVal.load tab_ok rfl (at_own 2 rfl) rfl) (by decide) (W.step tab_ok rfl rfl ?_) | refine W.val (OpVal.load tab_ok rfl (at_own 3 rfl) rfl) (by decide) (W.step tab_ok rfl rfl ?_) | refine W.val (OpVal.load tab_ok rfl (at_own 4 rfl) rfl) (by decide) (W.step tab_ok rfl rfl ?_) | refine W.val (OpVal.load tab_ok rfl (at_own 5 rfl) rfl) (by decide) (W.step tab_ok rfl rfl ?_) | refine W.val (OpVal.load tab_ok rfl (at_own 6 rfl) rfl) (by decide) (W.step tab_ok rfl rfl ?_) | refine W.val (OpVal.load tab_ok rfl (at_own 7 rfl) rfl) (by decide) (W.step tab_ok rfl rfl ?_) | refine W.val (OpVal.load tab_ok rfl (at_own 8 rfl) rfl) (by decide) (W.step tab_ok rfl rfl ?_) | refine W.val (OpVal.load tab_ok rfl (at_own 9 rfl) rfl) (by decide) (W.step tab_ok rfl rfl ?_) | refine W.val (OpVal.load tab_ok rfl (at_own 10 rfl) rfl) (by decide) (W.step tab_ok rfl rfl ?_) | refine W.val (OpVal.load tab_ok rfl (at_own 11 rfl) rfl) (by decide) (W.step tab_ok rfl rfl ?_) | refine W.val (OpVal.load tab_ok rfl (at_ro 0 rfl) rfl) (by decide) (W.step tab_ok rfl rfl ?_) | refine W.val (OpVal.load tab_ok rfl (at_ro 1 rfl) rfl) (by decide) (W.step tab_ok rfl rfl ?_) | refine W.val (OpVal.load tab_ok rfl (at_ro 2 rfl) rfl) (by decide) (W.step tab_ok rfl rfl ?_) | refine W.val (OpVal.load tab_ok rfl (at_ro 3 rfl) rfl) (by decide) (W.step tab_ok rfl rfl ?_) | refine W.store tab_ok rfl Upd.here rfl rfl rfl rfl rfl rfl (W.step tab_ok rfl rfl ?_) | refine W.store tab_ok rfl (Upd.there Upd.here) rfl rfl rfl rfl rfl rfl (W.step tab_ok rfl rfl ?_) | refine W.store tab_ok rfl (Upd.there (Upd.there Upd.here)) rfl rfl rfl rfl rfl rfl (W.step tab_ok rfl rfl ?_) | refine W.store tab_ok rfl (Upd.there (Upd.there (Upd.there Upd.here))) rfl rfl rfl rfl rfl rfl (W.step tab_ok rfl rfl ?_) | refine W.store tab_ok rfl (Upd.there (Upd.there (Upd.there (Upd.there Upd.here)))) rfl rfl rfl rfl rfl rfl (W.step tab_ok rfl rfl ?_) | refine W.store tab_ok rfl (Upd.there (Upd.there (Upd.there (Upd.there (Upd.there Upd.here))))) rfl rfl rfl rfl rfl rfl (W.step tab_ok rfl rfl ?_) | refine W.store tab_ok rfl (Upd.there (Upd.there (Upd.there (Upd.there (Upd.there (Upd.there Upd.here)))))) rfl rfl rfl rfl rfl rfl (W.step tab_ok rfl rfl ?_) | refine W.store tab_ok rfl (Upd.there (Upd.there (Upd.there (Upd.there (Upd.there (Upd.there (Upd.there Upd.here))))))) rfl rfl rfl rfl rfl rfl (W.step tab_ok rfl rfl ?_) | refine W.store tab_ok rfl (Upd.there (Upd.there (Upd.there (Upd.there (Upd.there (Upd.there (Upd.there (Upd.there Upd.here)))))))) rfl rfl rfl rfl rfl rfl (W.step tab_ok rfl rfl ?_) | refine W.store tab_ok rfl (Upd.there (Upd.there (Upd.there (Upd.there (Upd.there (Upd.there (Upd.there (Upd.there (Upd.there Upd.here))))))))) rfl rfl rfl rfl rfl rfl (W.step tab_ok rfl rfl ?_) | refine W.store tab_ok rfl (Upd.there (Upd.there (Upd.there (Upd.there (Upd.there (Upd.there (Upd.there (Upd.there (Upd.there (Upd.there Upd.here)))))))))) rfl rfl rfl rfl rfl rfl (W.step tab_ok rfl rfl ?_) | refine W.store tab_ok rfl (Upd.there (Upd.there (Upd.there (Upd.there (Upd.there (Upd.there (Upd.there (Upd.there (Upd.there (Upd.there (Upd.there Upd.here))))))))))) rfl rfl rfl rfl rfl rfl (W.step tab_ok rfl rfl ?_) | (refine W.new tab_ok rfl rfl (by decide) ?_; intro _; refine W.step tab_ok rfl rfl ?_) | (refine W.box rfl rfl (by decide) ?_; intro _; refine W.step tab_ok rfl rfl ?_))
  refine W.val (OpVal.min2 rfl rfl) (by decide) (W.step tab_ok rfl rfl ?_)
  have e1 : (if (8 : Int) < (vs.length : Int) then (8 : Int) else (vs.length : Int)) = ((min vs.length 8 : Nat) : Int) := by split <;> omega
  rw [e1]
  refine W.val (OpVal.min2 rfl rfl) (by decide) (W.step tab_ok rfl rfl ?_)
  have e2 : (if ((min vs.length 8 : Nat) : Int) < (ks.length : Int) then ((min vs.length 8 : Nat) : Int) else (ks.length : Int)) = ((min ks.length (min vs.length 8) : Nat) : Int) := by split <;> omega
  rw [e2]
  have hnk : min ks.length (min vs.length 8) ≤ ks.length := by omega
  have hnv : min ks.length (min vs.length 8) ≤ vs.length := by omega
  generalize hn : min ks.length (min vs.length 8) = n at hnk hnv
  have hn8 : n ≤ 8 := by omega
  have hps : PsOk (prs ks vs n) := prs_ok hnv hv
  have hpl := prs_len ks vs n
  have hps' : PsOk (prs ks vs n).reverse := fun p hp => hps p (List.mem_reverse.1 hp)
  refine W.step tab_ok rfl rfl ?_
  refine W.loop (fun m ρ1 L1 => ∃ (i : Nat) (f g : C6) (b7 b8 : Nat), i ≤ n ∧ f = ((prs ks vs n).take i).foldl addP c ∧ g = ((prs ks vs n).reverse.take i).foldl addP c ∧ m = n - i ∧ ρ1 = [(10, .int .i64 (i : Int)), (9, .int .i64 (n : Int)), (1, .slice ak ks.length ck), (2, .slice av vs.length cv), (7, .pointer (some ⟨b7, 0, none⟩)), (8, .pointer (some ⟨b8, 0, none⟩))] ∧ L1 = [[(b8, .cells g.l.toArray 28 (0, 0))], [(b7, .cells f.l.toArray 28 (0, 0))]]) _ _ _ (by repeat (first | exact trivial | refine ⟨rfl, ?_⟩)) (by repeat (first | exact Sel.nil | (apply Sel.cons; (repeat (first | exact Pick.here | apply Pick.there))))) (⟨0, _, _, _, _, Nat.zero_le _, rfl, rfl, rfl, rfl, rfl⟩) ?_
  rintro m ρ1 L1 ⟨i, f, g, b7, b8, hi, hf, hg, rfl, rfl, rfl⟩
  refine W.step tab_ok rfl rfl ?_
  by_cases hlt : i < n
  · refine W.iteT rfl (by simp; omega) (W.step tab_ok rfl rfl ?_)
    have fok : f.Ok := hf ▸ fold_ok hc (fun p hp => hps p (List.mem_of_mem_take hp))
    have gok : g.Ok := hg ▸ fold_ok hc (fun p hp => hps' p (List.mem_of_mem_take hp))
    rcases hrk.2 with ⟨h0, _⟩ | ⟨bk, ok, lk, ek, frk, rfl, rfl, hlk, hck⟩
    · omega
    rcases hrv.2 with ⟨h0, _⟩ | ⟨bv, ov, lv, ev, frv, rfl, rfl, hlv, hcv⟩
    · omega
    have k1 := ro_at (f := fun x => .int .i64 x) hlk hck (show i < ks.length by omega)
    have k2 := ro_at (f := fun x => .int .i64 x) hlk hck (show n - 1 - i < ks.length by omega)
    have v1 := ro_at (f := fun x => .int .u64 x) hlv hcv (show i < vs.length by omega)
    have v2 := ro_at (f := fun x => .int .u64 x) hlv hcv (show n - 1 - i < vs.length by omega)
    have r1 := getD_mem (show i < ks.length by omega) hk
    have r2 := getD_mem (show n - 1 - i < ks.length by omega) hk
    have r3 := getD_mem (show i < vs.length by omega) hv
    have r4 := getD_mem (show n - 1 - i < vs.length by omega) hv
    have nf := prs_next (ks := ks) (vs := vs) c hlt
    have ng := prs_back (ks := ks) (vs := vs) c hlt
    rw [← hf] at nf
    rw [← hg] at ng
    generalize ks.getD i 0 = x1 at k1 r1 nf
    generalize ks.getD (n - 1 - i) 0 = x2 at k2 r2 ng
    generalize vs.getD i 0 = y1 at v1 r3 nf
    generalize vs.getD (n - 1 - i) 0 = y2 at v2 r4 ng
    have q1 := around_range x1 6 (by decide)
    have q2 := around_range x2 6 (by decide)
    repeat (first | refine W.val (OpVal.load tab_ok rfl (at_own 0 rfl) rfl) (by decide) (W.step tab_ok rfl rfl ?_) | refine W.val (OpVal.load tab_ok rfl (at_own 1 rfl) rfl) (by decide) (W.step tab_ok rfl rfl ?_) | refine W.val (OpVal.load tab_ok rfl (at_own 2 rfl) rfl) (by decide) (W.step tab_ok rfl rfl ?_) | refine W.val (OpVal.load tab_ok rfl (at_own 3 rfl) rfl) (by decide) (W.step tab_ok rfl rfl ?_) | refine W.val (OpVal.load tab_ok rfl (at_own 4 rfl) rfl) (by decide) (W.step tab_ok rfl rfl ?_) | refine W.val (OpVal.load tab_ok rfl (at_own 5 rfl) rfl) (by decide) (W.step tab_ok rfl rfl ?_) | refine W.val (OpVal.load tab_ok rfl (at_own 6 rfl) rfl) (by decide) (W.step tab_ok rfl rfl ?_) | refine W.val (OpVal.load tab_ok rfl (at_own 7 rfl) rfl) (by decide) (W.step tab_ok rfl rfl ?_) | refine W.val (OpVal.load tab_ok rfl (at_own 8 rfl) rfl) (by decide) (W.step tab_ok rfl rfl ?_) | refine W.val (OpVal.load tab_ok rfl (at_own 9 rfl) rfl) (by decide) (W.step tab_ok rfl rfl ?_) | refine W.val (OpVal.load tab_ok rfl (at_own 10 rfl) rfl) (by decide) (W.step tab_ok rfl rfl ?_) | refine W.val (OpVal.load tab_ok rfl (at_own 11 rfl) rfl) (by decide) (W.step tab_ok rfl rfl ?_) | refine W.val (OpVal.load tab_ok rfl (at_ro 0 rfl) rfl) (by decide) (W.step tab_ok rfl rfl ?_) | refine W.val (OpVal.load tab_ok rfl (at_ro 1 rfl) rfl) (by decide) (W.step tab_ok rfl rfl ?_) | refine W.val (OpVal.load tab_ok rfl (at_ro 2 rfl) rfl) (by decide) (W.step tab_ok rfl rfl ?_) | refine W.val (OpVal.load tab_ok rfl (at_ro 3 rfl) rfl) (by decide) (W.step tab_ok rfl rfl ?_) | refine W.store tab_ok rfl Upd.here rfl rfl rfl rfl rfl rfl (W.step tab_ok rfl rfl ?_) | refine W.store tab_ok rfl (Upd.there Upd.here) rfl rfl rfl rfl rfl rfl (W.step tab_ok rfl rfl ?_) | refine W.store tab_ok rfl (Upd.there (Upd.there Upd.here)) rfl rfl rfl rfl rfl rfl (W.step tab_ok rfl rfl ?_) | refine W.store tab_ok rfl (Upd.there (Upd.there (Upd.there Upd.here))) rfl rfl rfl rfl rfl rfl (W.step tab_ok rfl rfl ?_) | refine W.store tab_ok rfl (Upd.there (Upd.there (Upd.there (Upd.there Upd.here)))) rfl rfl rfl rfl rfl rfl (W.step tab_ok rfl rfl ?_) | refine W.store tab_ok rfl (Upd.there (Upd.there (Upd.there (Upd.there (Upd.there Upd.here))))) rfl rfl rfl rfl rfl rfl (W.step tab_ok rfl rfl ?_) | refine W.store tab_ok rfl (Upd.there (Upd.there (Upd.there (Upd.there (Upd.there (Upd.there Upd.here)))))) rfl rfl rfl rfl rfl rfl (W.step tab_ok rfl rfl ?_) | refine W.store tab_ok rfl (Upd.there (Upd.there (Upd.there (Upd.there (Upd.there (Upd.there (Upd.there Upd.here))))))) rfl rfl rfl rfl rfl rfl (W.step tab_ok rfl rfl ?_) | refine W.store tab_ok rfl (Upd.there (Upd.there (Upd.there (Upd.there (Upd.there (Upd.there (Upd.there (Upd.there Upd.here)))))))) rfl rfl rfl rfl rfl rfl (W.step tab_ok rfl rfl ?_) | refine W.store tab_ok rfl (Upd.there (Upd.there (Upd.there (Upd.there (Upd.there (Upd.there (Upd.there (Upd.there (Upd.there Upd.here))))))))) rfl rfl rfl rfl rfl rfl (W.step tab_ok rfl rfl ?_) | refine W.store tab_ok rfl (Upd.there (Upd.there (Upd.there (Upd.there (Upd.there (Upd.there (Upd.there (Upd.there (Upd.there (Upd.there Upd.here)))))))))) rfl rfl rfl rfl rfl rfl (W.step tab_ok rfl rfl ?_) | refine W.store tab_ok rfl (Upd.there (Upd.there (Upd.there (Upd.there (Upd.there (Upd.there (Upd.there (Upd.there (Upd.there (Upd.there (Upd.there Upd.here))))))))))) rfl rfl rfl rfl rfl rfl (W.step tab_ok rfl rfl ?_) | (refine W.new tab_ok rfl rfl (by decide) ?_; intro _; refine W.step tab_ok rfl rfl ?_) | (refine W.box rfl rfl (by decide) ?_; intro _; refine W.step tab_ok rfl rfl ?_))
    refine W.drawH 11 [false, false, false, false, false, true, false, false, false, false, true] [] follows (by decide +kernel) rfl ?_
    intro _
    refine WD.step tab_ok rfl rfl ?_
    repeat (first | refine WD.val (OpVal.load tab_ok rfl (at_ro 0 rfl) rfl) (by decide) (WD.step tab_ok rfl rfl ?_) | refine WD.val (OpVal.load tab_ok rfl (at_ro 1 rfl) rfl) (by decide) (WD.step tab_ok rfl rfl ?_) | refine WD.val (OpVal.load tab_ok rfl (at_ro 2 rfl) rfl) (by decide) (WD.step tab_ok rfl rfl ?_) | refine WD.val (OpVal.load tab_ok rfl (at_ro 3 rfl) rfl) (by decide) (WD.step tab_ok rfl rfl ?_) | refine WD.val (OpVal.load tab_ok rfl (at_ro 4 rfl) rfl) (by decide) (WD.step tab_ok rfl rfl ?_) | refine WD.val (OpVal.load tab_ok rfl (at_ro 5 rfl) rfl) (by decide) (WD.step tab_ok rfl rfl ?_) | refine WD.val (OpVal.load tab_ok rfl (at_ro 6 rfl) rfl) (by decide) (WD.step tab_ok rfl rfl ?_) | refine WD.val (OpVal.load tab_ok rfl (at_ro 7 rfl) rfl) (by decide) (WD.step tab_ok rfl rfl ?_) | refine WD.val (OpVal.load tab_ok rfl (at_ro 8 rfl) rfl) (by decide) (WD.step tab_ok rfl rfl ?_) | refine WD.val (OpVal.load tab_ok rfl (at_ro 9 rfl) rfl) (by decide) (WD.step tab_ok rfl rfl ?_) | refine WD.val (OpVal.load tab_ok rfl (at_ro 10 rfl) rfl) (by decide) (WD.step tab_ok rfl rfl ?_) | refine WD.val (OpVal.load tab_ok rfl (at_ro 11 rfl) rfl) (by decide) (WD.step tab_ok rfl rfl ?_) | refine WD.store tab_ok rfl Upd.here rfl rfl rfl rfl rfl rfl (WD.step tab_ok rfl rfl ?_) | refine WD.store tab_ok rfl (Upd.there Upd.here) rfl rfl rfl rfl rfl rfl (WD.step tab_ok rfl rfl ?_) | refine WD.store tab_ok rfl (Upd.there (Upd.there Upd.here)) rfl rfl rfl rfl rfl rfl (WD.step tab_ok rfl rfl ?_) | refine WD.store tab_ok rfl (Upd.there (Upd.there (Upd.there Upd.here))) rfl rfl rfl rfl rfl rfl (WD.step tab_ok rfl rfl ?_) | refine WD.store tab_ok rfl (Upd.there (Upd.there (Upd.there (Upd.there Upd.here)))) rfl rfl rfl rfl rfl rfl (WD.step tab_ok rfl rfl ?_) | refine WD.store tab_ok rfl (Upd.there (Upd.there (Upd.there (Upd.there (Upd.there Upd.here))))) rfl rfl rfl rfl rfl rfl (WD.step tab_ok rfl rfl ?_) | refine WD.store tab_ok rfl (Upd.there (Upd.there (Upd.there (Upd.there (Upd.there (Upd.there Upd.here)))))) rfl rfl rfl rfl rfl rfl (WD.step tab_ok rfl rfl ?_) | refine WD.store tab_ok rfl (Upd.there (Upd.there (Upd.there (Upd.there (Upd.there (Upd.there (Upd.there Upd.here))))))) rfl rfl rfl rfl rfl rfl (WD.step tab_ok rfl rfl ?_) | refine WD.store tab_ok rfl (Upd.there (Upd.there (Upd.there (Upd.there (Upd.there (Upd.there (Upd.there (Upd.there Upd.here)))))))) rfl rfl rfl rfl rfl rfl (WD.step tab_ok rfl rfl ?_) | refine WD.store tab_ok rfl (Upd.there (Upd.there (Upd.there (Upd.there (Upd.there (Upd.there (Upd.there (Upd.there (Upd.there Upd.here))))))))) rfl rfl rfl rfl rfl rfl (WD.step tab_ok rfl rfl ?_) | refine WD.store tab_ok rfl (Upd.there (Upd.there (Upd.there (Upd.there (Upd.there (Upd.there (Upd.there (Upd.there (Upd.there (Upd.there Upd.here)))))))))) rfl rfl rfl rfl rfl rfl (WD.step tab_ok rfl rfl ?_) | refine WD.store tab_ok rfl (Upd.there (Upd.there (Upd.there (Upd.there (Upd.there (Upd.there (Upd.there (Upd.there (Upd.there (Upd.there (Upd.there Upd.here))))))))))) rfl rfl rfl rfl rfl rfl (WD.step tab_ok rfl rfl ?_) | (refine WD.new_ (NewOf.new tab_ok rfl rfl) (by decide) ?_; intro _; refine WD.step tab_ok rfl rfl ?_) | (refine WD.new_ (NewOf.box rfl rfl) (by decide) ?_; intro _; refine WD.step tab_ok rfl rfl ?_))
    refine WD.val (OpVal.ixSl tab_ok rfl rfl rfl rfl rfl (show i < ks.length by omega)) (by decide) (WD.step tab_ok rfl rfl ?_)
    refine WD.val (OpVal.load tab_ok rfl (at_ro 3 rfl) k1) (by decide) (WD.step tab_ok rfl rfl ?_)
    refine WD.call rfl rfl rfl rfl (Around_spec x1 6 r1 (by decide)) (by repeat (first | exact Sel.nil | (apply Sel.cons; (repeat (first | exact Pick.here | apply Pick.there))))) (by repeat (first | exact RoIn.nil | exact RoIn.same | refine RoIn.cons (by first | exact at_own 0 rfl | exact at_own 1 rfl | exact at_own 2 rfl | exact at_own 3 rfl | exact at_own 4 rfl | exact at_own 5 rfl | exact at_own 6 rfl | exact at_own 7 rfl | exact at_own 8 rfl | exact at_own 9 rfl | exact at_own 10 rfl | exact at_own 11 rfl | exact at_ro 0 rfl | exact at_ro 1 rfl | exact at_ro 2 rfl | exact at_ro 3 rfl | exact at_ro 4 rfl | exact at_ro 5 rfl) ?_ | refine RoIn.append ?_ ?_ | exact RoIn.own 0 rfl | exact RoIn.own 1 rfl | exact RoIn.own 2 rfl | exact RoIn.own 3 rfl | exact RoIn.own 4 rfl | exact RoIn.own 5 rfl | exact RoIn.own 6 rfl | exact RoIn.own 7 rfl | exact RoIn.own 8 rfl | exact RoIn.own 9 rfl | exact RoIn.own 10 rfl | exact RoIn.own 11 rfl | (intro p hp; simp [hp]; done))) (by decide) ?_
    rintro _ _ ⟨rfl, rfl⟩
    refine WD.step tab_ok rfl rfl ?_
    refine WD.val (OpVal.ixSl tab_ok rfl rfl rfl rfl rfl (show i < vs.length by omega)) (by decide) (WD.step tab_ok rfl rfl ?_)
    refine WD.val (OpVal.load tab_ok rfl (at_ro 4 rfl) v1) (by decide) (WD.step tab_ok rfl rfl ?_)
    refine WD.call rfl rfl rfl rfl (Add_spec f (around x1 6) y1 fok r3) (by repeat (first | exact Sel.nil | (apply Sel.cons; (repeat (first | exact Pick.here | apply Pick.there))))) (by repeat (first | exact RoIn.nil | exact RoIn.same | refine RoIn.cons (by first | exact at_own 0 rfl | exact at_own 1 rfl | exact at_own 2 rfl | exact at_own 3 rfl | exact at_own 4 rfl | exact at_own 5 rfl | exact at_own 6 rfl | exact at_own 7 rfl | exact at_own 8 rfl | exact at_own 9 rfl | exact at_own 10 rfl | exact at_own 11 rfl | exact at_ro 0 rfl | exact at_ro 1 rfl | exact at_ro 2 rfl | exact at_ro 3 rfl | exact at_ro 4 rfl | exact at_ro 5 rfl) ?_ | refine RoIn.append ?_ ?_ | exact RoIn.own 0 rfl | exact RoIn.own 1 rfl | exact RoIn.own 2 rfl | exact RoIn.own 3 rfl | exact RoIn.own 4 rfl | exact RoIn.own 5 rfl | exact RoIn.own 6 rfl | exact RoIn.own 7 rfl | exact RoIn.own 8 rfl | exact RoIn.own 9 rfl | exact RoIn.own 10 rfl | exact RoIn.own 11 rfl | (intro p hp; simp [hp]; done))) (by decide) ?_
    rintro _ _ ⟨rfl, rfl⟩
    refine WD.step tab_ok rfl rfl ?_
    refine WD.nil (W.step tab_ok rfl rfl ?_)
    repeat (first | refine W.val (OpVal.load tab_ok rfl (at_own 0 rfl) rfl) (by decide) (W.step tab_ok rfl rfl ?_) | refine W.val (OpVal.load tab_ok rfl (at_own 1 rfl) rfl) (by decide) (W.step tab_ok rfl rfl ?_) | refine W.val (OpVal.load tab_ok rfl (at_own 2 rfl) rfl) (by decide) (W.step tab_ok rfl rfl ?_) | refine W.val (OpVal.load tab_ok rfl (at_own 3 rfl) rfl) (by decide) (W.step tab_ok rfl rfl ?_) | refine W.val (OpVal.load tab_ok rfl (at_own 4 rfl) rfl) (by decide) (W.step tab_ok rfl rfl ?_) | refine W.val (OpVal.load tab_ok rfl (at_own 5 rfl) rfl) (by decide) (W.step tab_ok rfl rfl ?_) | refine W.val (OpVal.load tab_ok rfl (at_own 6 rfl) rfl) (by decide) (W.step tab_ok rfl rfl ?_) | refine W.val (OpVal.load tab_ok rfl (at_own 7 rfl) rfl) (by decide) (W.step tab_ok rfl rfl ?_) | refine W.val (OpVal.load tab_ok rfl (at_own 8 rfl) rfl) (by decide) (W.step tab_ok rfl rfl ?_) | refine W.val (OpVal.load tab_ok rfl (at_own 9 rfl) rfl) (by decide) (W.step tab_ok rfl rfl ?_) | refine W.val (OpVal.load tab_ok rfl (at_own 10 rfl) rfl) (by decide) (W.step tab_ok rfl rfl ?_) | refine W.val (OpVal.load tab_ok rfl (at_own 11 rfl) rfl) (by decide) (W.step tab_ok rfl rfl ?_) | refine W.val (OpVal.load tab_ok rfl (at_ro 0 rfl) rfl) (by decide) (W.step tab_ok rfl rfl ?_) | refine W.val (OpVal.load tab_ok rfl (at_ro 1 rfl) rfl) (by decide) (W.step tab_ok rfl rfl ?_) | refine W.val (OpVal.load tab_ok rfl (at_ro 2 rfl) rfl) (by decide) (W.step tab_ok rfl rfl ?_) | refine W.val (OpVal.load tab_ok rfl (at_ro 3 rfl) rfl) (by decide) (W.step tab_ok rfl rfl ?_) | refine W.store tab_ok rfl Upd.here rfl rfl rfl rfl rfl rfl (W.step tab_ok rfl rfl ?_) | refine W.store tab_ok rfl (Upd.there Upd.here) rfl rfl rfl rfl rfl rfl (W.step tab_ok rfl rfl ?_) | refine W.store tab_ok rfl (Upd.there (Upd.there Upd.here)) rfl rfl rfl rfl rfl rfl (W.step tab_ok rfl rfl ?_) | refine W.store tab_ok rfl (Upd.there (Upd.there (Upd.there Upd.here))) rfl rfl rfl rfl rfl rfl (W.step tab_ok rfl rfl ?_) | refine W.store tab_ok rfl (Upd.there (Upd.there (Upd.there (Upd.there Upd.here)))) rfl rfl rfl rfl rfl rfl (W.step tab_ok rfl rfl ?_) | refine W.store tab_ok rfl (Upd.there (Upd.there (Upd.there (Upd.there (Upd.there Upd.here))))) rfl rfl rfl rfl rfl rfl (W.step tab_ok rfl rfl ?_) | refine W.store tab_ok rfl (Upd.there (Upd.there (Upd.there (Upd.there (Upd.there (Upd.there Upd.here)))))) rfl rfl rfl rfl rfl rfl (W.step tab_ok rfl rfl ?_) | refine W.store tab_ok rfl (Upd.there (Upd.there (Upd.there (Upd.there (Upd.there (Upd.there (Upd.there Upd.here))))))) rfl rfl rfl rfl rfl rfl (W.step tab_ok rfl rfl ?_) | refine W.store tab_ok rfl (Upd.there (Upd.there (Upd.there (Upd.there (Upd.there (Upd.there (Upd.there (Upd.there Upd.here)))))))) rfl rfl rfl rfl rfl rfl (W.step tab_ok rfl rfl ?_) | refine W.store tab_ok rfl (Upd.there (Upd.there (Upd.there (Upd.there (Upd.there (Upd.there (Upd.there (Upd.there (Upd.there Upd.here))))))))) rfl rfl rfl rfl rfl rfl (W.step tab_ok rfl rfl ?_) | refine W.store tab_ok rfl (Upd.there (Upd.there (Upd.there (Upd.there (Upd.there (Upd.there (Upd.there (Upd.there (Upd.there (Upd.there Upd.here)))))))))) rfl rfl rfl rfl rfl rfl (W.step tab_ok rfl rfl ?_) | refine W.store tab_ok rfl (Upd.there (Upd.there (Upd.there (Upd.there (Upd.there (Upd.there (Upd.there (Upd.there (Upd.there (Upd.there (Upd.there Upd.here))))))))))) rfl rfl rfl rfl rfl rfl (W.step tab_ok rfl rfl ?_) | (refine W.new tab_ok rfl rfl (by decide) ?_; intro _; refine W.step tab_ok rfl rfl ?_) | (refine W.box rfl rfl (by decide) ?_; intro _; refine W.step tab_ok rfl rfl ?_))
    refine W.drawH 17 [false, false, false, false, false, false, false, false, true, false, false, false, false, false, false, false, true] [] follows (by decide +kernel) rfl ?_
    intro _
    refine WD.step tab_ok rfl rfl ?_
    repeat (first | refine WD.val (OpVal.load tab_ok rfl (at_ro 0 rfl) rfl) (by decide) (WD.step tab_ok rfl rfl ?_) | refine WD.val (OpVal.load tab_ok rfl (at_ro 1 rfl) rfl) (by decide) (WD.step tab_ok rfl rfl ?_) | refine WD.val (OpVal.load tab_ok rfl (at_ro 2 rfl) rfl) (by decide) (WD.step tab_ok rfl rfl ?_) | refine WD.val (OpVal.load tab_ok rfl (at_ro 3 rfl) rfl) (by decide) (WD.step tab_ok rfl rfl ?_) | refine WD.val (OpVal.load tab_ok rfl (at_ro 4 rfl) rfl) (by decide) (WD.step tab_ok rfl rfl ?_) | refine WD.val (OpVal.load tab_ok rfl (at_ro 5 rfl) rfl) (by decide) (WD.step tab_ok rfl rfl ?_) | refine WD.val (OpVal.load tab_ok rfl (at_ro 6 rfl) rfl) (by decide) (WD.step tab_ok rfl rfl ?_) | refine WD.val (OpVal.load tab_ok rfl (at_ro 7 rfl) rfl) (by decide) (WD.step tab_ok rfl rfl ?_) | refine WD.val (OpVal.load tab_ok rfl (at_ro 8 rfl) rfl) (by decide) (WD.step tab_ok rfl rfl ?_) | refine WD.val (OpVal.load tab_ok rfl (at_ro 9 rfl) rfl) (by decide) (WD.step tab_ok rfl rfl ?_) | refine WD.val (OpVal.load tab_ok rfl (at_ro 10 rfl) rfl) (by decide) (WD.step tab_ok rfl rfl ?_) | refine WD.val (OpVal.load tab_ok rfl (at_ro 11 rfl) rfl) (by decide) (WD.step tab_ok rfl rfl ?_) | refine WD.store tab_ok rfl Upd.here rfl rfl rfl rfl rfl rfl (WD.step tab_ok rfl rfl ?_) | refine WD.store tab_ok rfl (Upd.there Upd.here) rfl rfl rfl rfl rfl rfl (WD.step tab_ok rfl rfl ?_) | refine WD.store tab_ok rfl (Upd.there (Upd.there Upd.here)) rfl rfl rfl rfl rfl rfl (WD.step tab_ok rfl rfl ?_) | refine WD.store tab_ok rfl (Upd.there (Upd.there (Upd.there Upd.here))) rfl rfl rfl rfl rfl rfl (WD.step tab_ok rfl rfl ?_) | refine WD.store tab_ok rfl (Upd.there (Upd.there (Upd.there (Upd.there Upd.here)))) rfl rfl rfl rfl rfl rfl (WD.step tab_ok rfl rfl ?_) | refine WD.store tab_ok rfl (Upd.there (Upd.there (Upd.there (Upd.there (Upd.there Upd.here))))) rfl rfl rfl rfl rfl rfl (WD.step tab_ok rfl rfl ?_) | refine WD.store tab_ok rfl (Upd.there (Upd.there (Upd.there (Upd.there (Upd.there (Upd.there Upd.here)))))) rfl rfl rfl rfl rfl rfl (WD.step tab_ok rfl rfl ?_) | refine WD.store tab_ok rfl (Upd.there (Upd.there (Upd.there (Upd.there (Upd.there (Upd.there (Upd.there Upd.here))))))) rfl rfl rfl rfl rfl rfl (WD.step tab_ok rfl rfl ?_) | refine WD.store tab_ok rfl (Upd.there (Upd.there (Upd.there (Upd.there (Upd.there (Upd.there (Upd.there (Upd.there Upd.here)))))))) rfl rfl rfl rfl rfl rfl (WD.step tab_ok rfl rfl ?_) | refine WD.store tab_ok rfl (Upd.there (Upd.there (Upd.there (Upd.there (Upd.there (Upd.there (Upd.there (Upd.there (Upd.there Upd.here))))))))) rfl rfl rfl rfl rfl rfl (WD.step tab_ok rfl rfl ?_) | refine WD.store tab_ok rfl (Upd.there (Upd.there (Upd.there (Upd.there (Upd.there (Upd.there (Upd.there (Upd.there (Upd.there (Upd.there Upd.here)))))))))) rfl rfl rfl rfl rfl rfl (WD.step tab_ok rfl rfl ?_) | refine WD.store tab_ok rfl (Upd.there (Upd.there (Upd.there (Upd.there (Upd.there (Upd.there (Upd.there (Upd.there (Upd.there (Upd.there (Upd.there Upd.here))))))))))) rfl rfl rfl rfl rfl rfl (WD.step tab_ok rfl rfl ?_) | (refine WD.new_ (NewOf.new tab_ok rfl rfl) (by decide) ?_; intro _; refine WD.step tab_ok rfl rfl ?_) | (refine WD.new_ (NewOf.box rfl rfl) (by decide) ?_; intro _; refine WD.step tab_ok rfl rfl ?_))
    refine WD.val (OpVal.sub rfl rfl (i64_in _ (by omega))) (by decide) (WD.step tab_ok rfl rfl ?_)
    refine WD.val (OpVal.sub rfl rfl (i64_in _ (by omega))) (by decide) (WD.step tab_ok rfl rfl ?_)
    have en : (n : Int) - 1 - (i : Int) = ((n - 1 - i : Nat) : Int) := by omega
    rw [en]
    refine WD.val (OpVal.ixSl tab_ok rfl rfl rfl rfl rfl (show n - 1 - i < ks.length by omega)) (by decide) (WD.step tab_ok rfl rfl ?_)
    refine WD.val (OpVal.load tab_ok rfl (at_ro 3 rfl) k2) (by decide) (WD.step tab_ok rfl rfl ?_)
    refine WD.call rfl rfl rfl rfl (Around_spec x2 6 r2 (by decide)) (by repeat (first | exact Sel.nil | (apply Sel.cons; (repeat (first | exact Pick.here | apply Pick.there))))) (by repeat (first | exact RoIn.nil | exact RoIn.same | refine RoIn.cons (by first | exact at_own 0 rfl | exact at_own 1 rfl | exact at_own 2 rfl | exact at_own 3 rfl | exact at_own 4 rfl | exact at_own 5 rfl | exact at_own 6 rfl | exact at_own 7 rfl | exact at_own 8 rfl | exact at_own 9 rfl | exact at_own 10 rfl | exact at_own 11 rfl | exact at_ro 0 rfl | exact at_ro 1 rfl | exact at_ro 2 rfl | exact at_ro 3 rfl | exact at_ro 4 rfl | exact at_ro 5 rfl) ?_ | refine RoIn.append ?_ ?_ | exact RoIn.own 0 rfl | exact RoIn.own 1 rfl | exact RoIn.own 2 rfl | exact RoIn.own 3 rfl | exact RoIn.own 4 rfl | exact RoIn.own 5 rfl | exact RoIn.own 6 rfl | exact RoIn.own 7 rfl | exact RoIn.own 8 rfl | exact RoIn.own 9 rfl | exact RoIn.own 10 rfl | exact RoIn.own 11 rfl | (intro p hp; simp [hp]; done))) (by decide) ?_
    rintro _ _ ⟨rfl, rfl⟩
    refine WD.step tab_ok rfl rfl ?_
    refine WD.val (OpVal.sub rfl rfl (i64_in _ (by omega))) (by decide) (WD.step tab_ok rfl rfl ?_)
    refine WD.val (OpVal.sub rfl rfl (i64_in _ (by omega))) (by decide) (WD.step tab_ok rfl rfl ?_)
    rw [en]
    refine WD.val (OpVal.ixSl tab_ok rfl rfl rfl rfl rfl (show n - 1 - i < vs.length by omega)) (by decide) (WD.step tab_ok rfl rfl ?_)
    refine WD.val (OpVal.load tab_ok rfl (at_ro 4 rfl) v2) (by decide) (WD.step tab_ok rfl rfl ?_)
    refine WD.call rfl rfl rfl rfl (Add_spec g (around x2 6) y2 gok r4) (by repeat (first | exact Sel.nil | (apply Sel.cons; (repeat (first | exact Pick.here | apply Pick.there))))) (by repeat (first | exact RoIn.nil | exact RoIn.same | refine RoIn.cons (by first | exact at_own 0 rfl | exact at_own 1 rfl | exact at_own 2 rfl | exact at_own 3 rfl | exact at_own 4 rfl | exact at_own 5 rfl | exact at_own 6 rfl | exact at_own 7 rfl | exact at_own 8 rfl | exact at_own 9 rfl | exact at_own 10 rfl | exact at_own 11 rfl | exact at_ro 0 rfl | exact at_ro 1 rfl | exact at_ro 2 rfl | exact at_ro 3 rfl | exact at_ro 4 rfl | exact at_ro 5 rfl) ?_ | refine RoIn.append ?_ ?_ | exact RoIn.own 0 rfl | exact RoIn.own 1 rfl | exact RoIn.own 2 rfl | exact RoIn.own 3 rfl | exact RoIn.own 4 rfl | exact RoIn.own 5 rfl | exact RoIn.own 6 rfl | exact RoIn.own 7 rfl | exact RoIn.own 8 rfl | exact RoIn.own 9 rfl | exact RoIn.own 10 rfl | exact RoIn.own 11 rfl | (intro p hp; simp [hp]; done))) (by decide) ?_
    rintro _ _ ⟨rfl, rfl⟩
    refine WD.step tab_ok rfl rfl ?_
    refine WD.nil (W.step tab_ok rfl rfl ?_)
    repeat (first | refine W.val (OpVal.load tab_ok rfl (at_own 0 rfl) rfl) (by decide) (W.step tab_ok rfl rfl ?_) | refine W.val (OpVal.load tab_ok rfl (at_own 1 rfl) rfl) (by decide) (W.step tab_ok rfl rfl ?_) | refine W.val (OpVal.load tab_ok rfl (at_own 2 rfl) rfl) (by decide) (W.step tab_ok rfl rfl ?_) | refine W.val (OpVal.load tab_ok rfl (at_own 3 rfl) rfl) (by decide) (W.step tab_ok rfl rfl ?_) | refine W.val (OpVal.load tab_ok rfl (at_own 4 rfl) rfl) (by decide) (W.step tab_ok rfl rfl ?_) | refine W.val (OpVal.load tab_ok rfl (at_own 5 rfl) rfl) (by decide) (W.step tab_ok rfl rfl ?_) | refine W.val (OpVal.load tab_ok rfl (at_own 6 rfl) rfl) (by decide) (W.step tab_ok rfl rfl ?_) | refine W.val (OpVal.load tab_ok rfl (at_own 7 rfl) rfl) (by decide) (W.step tab_ok rfl rfl ?_) | refine W.val (OpVal.load tab_ok rfl (at_own 8 rfl) rfl) (by decide) (W.step tab_ok rfl rfl ?_) | refine W.val (OpVal.load tab_ok rfl (at_own 9 rfl) rfl) (by decide) (W.step tab_ok rfl rfl ?_) | refine W.val (OpVal.load tab_ok rfl (at_own 10 rfl) rfl) (by decide) (W.step tab_ok rfl rfl ?_) | refine W.val (OpVal.load tab_ok rfl (at_own 11 rfl) rfl) (by decide) (W.step tab_ok rfl rfl ?_) | refine W.val (OpVal.load tab_ok rfl (at_ro 0 rfl) rfl) (by decide) (W.step tab_ok rfl rfl ?_) | refine W.val (OpVal.load tab_ok rfl (at_ro 1 rfl) rfl) (by decide) (W.step tab_ok rfl rfl ?_) | refine W.val (OpVal.load tab_ok rfl (at_ro 2 rfl) rfl) (by decide) (W.step tab_ok rfl rfl ?_) | refine W.val (OpVal.load tab_ok rfl (at_ro 3 rfl) rfl) (by decide) (W.step tab_ok rfl rfl ?_) | refine W.store tab_ok rfl Upd.here rfl rfl rfl rfl rfl rfl (W.step tab_ok rfl rfl ?_) | refine W.store tab_ok rfl (Upd.there Upd.here) rfl rfl rfl rfl rfl rfl (W.step tab_ok rfl rfl ?_) | refine W.store tab_ok rfl (Upd.there (Upd.there Upd.here)) rfl rfl rfl rfl rfl rfl (W.step tab_ok rfl rfl ?_) | refine W.store tab_ok rfl (Upd.there (Upd.there (Upd.there Upd.here))) rfl rfl rfl rfl rfl rfl (W.step tab_ok rfl rfl ?_) | refine W.store tab_ok rfl (Upd.there (Upd.there (Upd.there (Upd.there Upd.here)))) rfl rfl rfl rfl rfl rfl (W.step tab_ok rfl rfl ?_) | refine W.store tab_ok rfl (Upd.there (Upd.there (Upd.there (Upd.there (Upd.there Upd.here))))) rfl rfl rfl rfl rfl rfl (W.step tab_ok rfl rfl ?_) | refine W.store tab_ok rfl (Upd.there (Upd.there (Upd.there (Upd.there (Upd.there (Upd.there Upd.here)))))) rfl rfl rfl rfl rfl rfl (W.step tab_ok rfl rfl ?_) | refine W.store tab_ok rfl (Upd.there (Upd.there (Upd.there (Upd.there (Upd.there (Upd.there (Upd.there Upd.here))))))) rfl rfl rfl rfl rfl rfl (W.step tab_ok rfl rfl ?_) | refine W.store tab_ok rfl (Upd.there (Upd.there (Upd.there (Upd.there (Upd.there (Upd.there (Upd.there (Upd.there Upd.here)))))))) rfl rfl rfl rfl rfl rfl (W.step tab_ok rfl rfl ?_) | refine W.store tab_ok rfl (Upd.there (Upd.there (Upd.there (Upd.there (Upd.there (Upd.there (Upd.there (Upd.there (Upd.there Upd.here))))))))) rfl rfl rfl rfl rfl rfl (W.step tab_ok rfl rfl ?_) | refine W.store tab_ok rfl (Upd.there (Upd.there (Upd.there (Upd.there (Upd.there (Upd.there (Upd.there (Upd.there (Upd.there (Upd.there Upd.here)))))))))) rfl rfl rfl rfl rfl rfl (W.step tab_ok rfl rfl ?_) | refine W.store tab_ok rfl (Upd.there (Upd.there (Upd.there (Upd.there (Upd.there (Upd.there (Upd.there (Upd.there (Upd.there (Upd.there (Upd.there Upd.here))))))))))) rfl rfl rfl rfl rfl rfl (W.step tab_ok rfl rfl ?_) | (refine W.new tab_ok rfl rfl (by decide) ?_; intro _; refine W.step tab_ok rfl rfl ?_) | (refine W.box rfl rfl (by decide) ?_; intro _; refine W.step tab_ok rfl rfl ?_))
    refine W.loop (fun m ρ1 L1 => ∃ (j : Nat) (b11 : Nat), j ≤ 6 ∧ m = 6 - j ∧ ρ1 = [(12, .int .i64 (j : Int)), (11, .pointer (some ⟨b11, 0, none⟩)), (10, .int .i64 (i : Int)), (9, .int .i64 (n : Int)), (1, .slice (some ⟨bk, ok, none⟩) ks.length ck), (2, .slice (some ⟨bv, ov, none⟩) vs.length cv), (7, .pointer (some ⟨b7, 0, none⟩)), (8, .pointer (some ⟨b8, 0, none⟩))] ∧ L1 = [[(b8, .cells (g.add (around x2 6) y2).l.toArray 28 (0, 0))], [(b7, .cells (f.add (around x1 6) y1).l.toArray 28 (0, 0))], [(b11, .cells f.l.toArray 28 (0, 0))]]) _ _ _ (by repeat (first | exact trivial | refine ⟨rfl, ?_⟩)) (by repeat (first | exact Sel.nil | (apply Sel.cons; (repeat (first | exact Pick.here | apply Pick.there))))) (⟨0, _, Nat.zero_le _, rfl, rfl, rfl⟩) ?_
    rintro m ρ1 L1 ⟨j, b11, hj, rfl, rfl, rfl⟩
    refine W.step tab_ok rfl rfl ?_
    by_cases hj6 : j < 6
    · refine W.iteT rfl (by simp; omega) (W.step tab_ok rfl rfl ?_)
      repeat (first | refine W.val (OpVal.load tab_ok rfl (at_own 0 rfl) rfl) (by decide) (W.step tab_ok rfl rfl ?_) | refine W.val (OpVal.load tab_ok rfl (at_own 1 rfl) rfl) (by decide) (W.step tab_ok rfl rfl ?_) | refine W.val (OpVal.load tab_ok rfl (at_own 2 rfl) rfl) (by decide) (W.step tab_ok rfl rfl ?_) | refine W.val (OpVal.load tab_ok rfl (at_own 3 rfl) rfl) (by decide) (W.step tab_ok rfl rfl ?_) | refine W.val (OpVal.load tab_ok rfl (at_own 4 rfl) rfl) (by decide) (W.step tab_ok rfl rfl ?_) | refine W.val (OpVal.load tab_ok rfl (at_own 5 rfl) rfl) (by decide) (W.step tab_ok rfl rfl ?_) | refine W.val (OpVal.load tab_ok rfl (at_own 6 rfl) rfl) (by decide) (W.step tab_ok rfl rfl ?_) | refine W.val (OpVal.load tab_ok rfl (at_own 7 rfl) rfl) (by decide) (W.step tab_ok rfl rfl ?_) | refine W.val (OpVal.load tab_ok rfl (at_own 8 rfl) rfl) (by decide) (W.step tab_ok rfl rfl ?_) | refine W.val (OpVal.load tab_ok rfl (at_own 9 rfl) rfl) (by decide) (W.step tab_ok rfl rfl ?_) | refine W.val (OpVal.load tab_ok rfl (at_own 10 rfl) rfl) (by decide) (W.step tab_ok rfl rfl ?_) | refine W.val (OpVal.load tab_ok rfl (at_own 11 rfl) rfl) (by decide) (W.step tab_ok rfl rfl ?_) | refine W.val (OpVal.load tab_ok rfl (at_ro 0 rfl) rfl) (by decide) (W.step tab_ok rfl rfl ?_) | refine W.val (OpVal.load tab_ok rfl (at_ro 1 rfl) rfl) (by decide) (W.step tab_ok rfl rfl ?_) | refine W.val (OpVal.load tab_ok rfl (at_ro 2 rfl) rfl) (by decide) (W.step tab_ok rfl rfl ?_) | refine W.val (OpVal.load tab_ok rfl (at_ro 3 rfl) rfl) (by decide) (W.step tab_ok rfl rfl ?_) | refine W.store tab_ok rfl Upd.here rfl rfl rfl rfl rfl rfl (W.step tab_ok rfl rfl ?_) | refine W.store tab_ok rfl (Upd.there Upd.here) rfl rfl rfl rfl rfl rfl (W.step tab_ok rfl rfl ?_) | refine W.store tab_ok rfl (Upd.there (Upd.there Upd.here)) rfl rfl rfl rfl rfl rfl (W.step tab_ok rfl rfl ?_) | refine W.store tab_ok rfl (Upd.there (Upd.there (Upd.there Upd.here))) rfl rfl rfl rfl rfl rfl (W.step tab_ok rfl rfl ?_) | refine W.store tab_ok rfl (Upd.there (Upd.there (Upd.there (Upd.there Upd.here)))) rfl rfl rfl rfl rfl rfl (W.step tab_ok rfl rfl ?_) | refine W.store tab_ok rfl (Upd.there (Upd.there (Upd.there (Upd.there (Upd.there Upd.here))))) rfl rfl rfl rfl rfl rfl (W.step tab_ok rfl rfl ?_) | refine W.store tab_ok rfl (Upd.there (Upd.there (Upd.there (Upd.there (Upd.there (Upd.there Upd.here)))))) rfl rfl rfl rfl rfl rfl (W.step tab_ok rfl rfl ?_) | refine W.store tab_ok rfl (Upd.there (Upd.there (Upd.there (Upd.there (Upd.there (Upd.there (Upd.there Upd.here))))))) rfl rfl rfl rfl rfl rfl (W.step tab_ok rfl rfl ?_) | refine W.store tab_ok rfl (Upd.there (Upd.there (Upd.there (Upd.there (Upd.there (Upd.there (Upd.there (Upd.there Upd.here)))))))) rfl rfl rfl rfl rfl rfl (W.step tab_ok rfl rfl ?_) | refine W.store tab_ok rfl (Upd.there (Upd.there (Upd.there (Upd.there (Upd.there (Upd.there (Upd.there (Upd.there (Upd.there Upd.here))))))))) rfl rfl rfl rfl rfl rfl (W.step tab_ok rfl rfl ?_) | refine W.store tab_ok rfl (Upd.there (Upd.there (Upd.there (Upd.there (Upd.there (Upd.there (Upd.there (Upd.there (Upd.there (Upd.there Upd.here)))))))))) rfl rfl rfl rfl rfl rfl (W.step tab_ok rfl rfl ?_) | refine W.store tab_ok rfl (Upd.there (Upd.there (Upd.there (Upd.there (Upd.there (Upd.there (Upd.there (Upd.there (Upd.there (Upd.there (Upd.there Upd.here))))))))))) rfl rfl rfl rfl rfl rfl (W.step tab_ok rfl rfl ?_) | (refine W.new tab_ok rfl rfl (by decide) ?_; intro _; refine W.step tab_ok rfl rfl ?_) | (refine W.box rfl rfl (by decide) ?_; intro _; refine W.step tab_ok rfl rfl ?_))
      refine W.call rfl rfl rfl rfl (Get_spec f (j : Int)) (by repeat (first | exact Sel.nil | (apply Sel.cons; (repeat (first | exact Pick.here | apply Pick.there))))) (by repeat (first | exact RoIn.nil | exact RoIn.same | refine RoIn.cons (by first | exact at_own 0 rfl | exact at_own 1 rfl | exact at_own 2 rfl | exact at_own 3 rfl | exact at_own 4 rfl | exact at_own 5 rfl | exact at_own 6 rfl | exact at_own 7 rfl | exact at_own 8 rfl | exact at_own 9 rfl | exact at_own 10 rfl | exact at_own 11 rfl | exact at_ro 0 rfl | exact at_ro 1 rfl | exact at_ro 2 rfl | exact at_ro 3 rfl | exact at_ro 4 rfl | exact at_ro 5 rfl) ?_ | refine RoIn.append ?_ ?_ | exact RoIn.own 0 rfl | exact RoIn.own 1 rfl | exact RoIn.own 2 rfl | exact RoIn.own 3 rfl | exact RoIn.own 4 rfl | exact RoIn.own 5 rfl | exact RoIn.own 6 rfl | exact RoIn.own 7 rfl | exact RoIn.own 8 rfl | exact RoIn.own 9 rfl | exact RoIn.own 10 rfl | exact RoIn.own 11 rfl | (intro p hp; simp [hp]; done))) (by decide) ?_
      rintro _ _ ⟨rfl, rfl⟩
      refine W.step tab_ok rfl rfl ?_
      repeat (first | refine W.val (OpVal.load tab_ok rfl (at_own 0 rfl) rfl) (by decide) (W.step tab_ok rfl rfl ?_) | refine W.val (OpVal.load tab_ok rfl (at_own 1 rfl) rfl) (by decide) (W.step tab_ok rfl rfl ?_) | refine W.val (OpVal.load tab_ok rfl (at_own 2 rfl) rfl) (by decide) (W.step tab_ok rfl rfl ?_) | refine W.val (OpVal.load tab_ok rfl (at_own 3 rfl) rfl) (by decide) (W.step tab_ok rfl rfl ?_) | refine W.val (OpVal.load tab_ok rfl (at_own 4 rfl) rfl) (by decide) (W.step tab_ok rfl rfl ?_) | refine W.val (OpVal.load tab_ok rfl (at_own 5 rfl) rfl) (by decide) (W.step tab_ok rfl rfl ?_) | refine W.val (OpVal.load tab_ok rfl (at_own 6 rfl) rfl) (by decide) (W.step tab_ok rfl rfl ?_) | refine W.val (OpVal.load tab_ok rfl (at_own 7 rfl) rfl) (by decide) (W.step tab_ok rfl rfl ?_) | refine W.val (OpVal.load tab_ok rfl (at_own 8 rfl) rfl) (by decide) (W.step tab_ok rfl rfl ?_) | refine W.val (OpVal.load tab_ok rfl (at_own 9 rfl) rfl) (by decide) (W.step tab_ok rfl rfl ?_) | refine W.val (OpVal.load tab_ok rfl (at_own 10 rfl) rfl) (by decide) (W.step tab_ok rfl rfl ?_) | refine W.val (OpVal.load tab_ok rfl (at_own 11 rfl) rfl) (by decide) (W.step tab_ok rfl rfl ?_) | refine W.val (OpVal.load tab_ok rfl (at_ro 0 rfl) rfl) (by decide) (W.step tab_ok rfl rfl ?_) | refine W.val (OpVal.load tab_ok rfl (at_ro 1 rfl) rfl) (by decide) (W.step tab_ok rfl rfl ?_) | refine W.val (OpVal.load tab_ok rfl (at_ro 2 rfl) rfl) (by decide) (W.step tab_ok rfl rfl ?_) | refine W.val (OpVal.load tab_ok rfl (at_ro 3 rfl) rfl) (by decide) (W.step tab_ok rfl rfl ?_) | refine W.store tab_ok rfl Upd.here rfl rfl rfl rfl rfl rfl (W.step tab_ok rfl rfl ?_) | refine W.store tab_ok rfl (Upd.there Upd.here) rfl rfl rfl rfl rfl rfl (W.step tab_ok rfl rfl ?_) | refine W.store tab_ok rfl (Upd.there (Upd.there Upd.here)) rfl rfl rfl rfl rfl rfl (W.step tab_ok rfl rfl ?_) | refine W.store tab_ok rfl (Upd.there (Upd.there (Upd.there Upd.here))) rfl rfl rfl rfl rfl rfl (W.step tab_ok rfl rfl ?_) | refine W.store tab_ok rfl (Upd.there (Upd.there (Upd.there (Upd.there Upd.here)))) rfl rfl rfl rfl rfl rfl (W.step tab_ok rfl rfl ?_) | refine W.store tab_ok rfl (Upd.there (Upd.there (Upd.there (Upd.there (Upd.there Upd.here))))) rfl rfl rfl rfl rfl rfl (W.step tab_ok rfl rfl ?_) | refine W.store tab_ok rfl (Upd.there (Upd.there (Upd.there (Upd.there (Upd.there (Upd.there Upd.here)))))) rfl rfl rfl rfl rfl rfl (W.step tab_ok rfl rfl ?_) | refine W.store tab_ok rfl (Upd.there (Upd.there (Upd.there (Upd.there (Upd.there (Upd.there (Upd.there Upd.here))))))) rfl rfl rfl rfl rfl rfl (W.step tab_ok rfl rfl ?_) | refine W.store tab_ok rfl (Upd.there (Upd.there (Upd.there (Upd.there (Upd.there (Upd.there (Upd.there (Upd.there Upd.here)))))))) rfl rfl rfl rfl rfl rfl (W.step tab_ok rfl rfl ?_) | refine W.store tab_ok rfl (Upd.there (Upd.there (Upd.there (Upd.there (Upd.there (Upd.there (Upd.there (Upd.there (Upd.there Upd.here))))))))) rfl rfl rfl rfl rfl rfl (W.step tab_ok rfl rfl ?_) | refine W.store tab_ok rfl (Upd.there (Upd.there (Upd.there (Upd.there (Upd.there (Upd.there (Upd.there (Upd.there (Upd.there (Upd.there Upd.here)))))))))) rfl rfl rfl rfl rfl rfl (W.step tab_ok rfl rfl ?_) | refine W.store tab_ok rfl (Upd.there (Upd.there (Upd.there (Upd.there (Upd.there (Upd.there (Upd.there (Upd.there (Upd.there (Upd.there (Upd.there Upd.here))))))))))) rfl rfl rfl rfl rfl rfl (W.step tab_ok rfl rfl ?_) | (refine W.new tab_ok rfl rfl (by decide) ?_; intro _; refine W.step tab_ok rfl rfl ?_) | (refine W.box rfl rfl (by decide) ?_; intro _; refine W.step tab_ok rfl rfl ?_))
      refine W.call rfl rfl rfl rfl (Get_spec (f.add (around x1 6) y1) (j : Int)) (by repeat (first | exact Sel.nil | (apply Sel.cons; (repeat (first | exact Pick.here | apply Pick.there))))) (by repeat (first | exact RoIn.nil | exact RoIn.same | refine RoIn.cons (by first | exact at_own 0 rfl | exact at_own 1 rfl | exact at_own 2 rfl | exact at_own 3 rfl | exact at_own 4 rfl | exact at_own 5 rfl | exact at_own 6 rfl | exact at_own 7 rfl | exact at_own 8 rfl | exact at_own 9 rfl | exact at_own 10 rfl | exact at_own 11 rfl | exact at_ro 0 rfl | exact at_ro 1 rfl | exact at_ro 2 rfl | exact at_ro 3 rfl | exact at_ro 4 rfl | exact at_ro 5 rfl) ?_ | refine RoIn.append ?_ ?_ | exact RoIn.own 0 rfl | exact RoIn.own 1 rfl | exact RoIn.own 2 rfl | exact RoIn.own 3 rfl | exact RoIn.own 4 rfl | exact RoIn.own 5 rfl | exact RoIn.own 6 rfl | exact RoIn.own 7 rfl | exact RoIn.own 8 rfl | exact RoIn.own 9 rfl | exact RoIn.own 10 rfl | exact RoIn.own 11 rfl | (intro p hp; simp [hp]; done))) (by decide) ?_
      rintro _ _ ⟨rfl, rfl⟩
      refine W.step tab_ok rfl rfl ?_
      have hge : (f.get (j : Int)).1 ≤ ((f.add (around x1 6) y1).get (j : Int)).1 := by
        rw [get_add f _ _ _ q1 (by omega)]
        split
        · exact tog_ge _ _ (C6.get_u64 fok _) r3
        · exact Int.le_refl _
      refine W.iteF rfl (by simp; omega) (W.step tab_ok rfl rfl ?_)
      refine W.val (OpVal.add rfl rfl (i64_in _ (by omega))) (by decide) (W.step tab_ok rfl rfl ?_)
      refine W.rnd _ _ (by repeat (first | exact trivial | refine ⟨rfl, ?_⟩)) (by repeat (first | exact Sel.nil | (apply Sel.cons; (repeat (first | exact Pick.here | apply Pick.there))))) (⟨6 - (j + 1), by omega, j + 1, b11, by omega, rfl, rfl, rfl⟩)
    · refine W.iteF rfl (by simp; omega) (W.step tab_ok rfl rfl ?_)
      refine W.val (OpVal.add rfl rfl (i64_in _ (by omega))) (by decide) (W.step tab_ok rfl rfl ?_)
      refine W.rnd _ _ (by repeat (first | exact trivial | refine ⟨rfl, ?_⟩)) (by repeat (first | exact Sel.nil | (apply Sel.cons; (repeat (first | exact Pick.here | apply Pick.there))))) (⟨n - (i + 1), by omega, i + 1, _, _, b7, b8, by omega, nf.symm, ng.symm, rfl, rfl, rfl⟩)
  · refine W.iteF rfl (by simp; omega) (W.step tab_ok rfl rfl ?_)
    have hin : i = n := by omega
    subst hin
    have e3 : g = f := by
      rw [hf, hg, List.take_of_length_le (by rw [List.length_reverse, hpl]; exact Nat.le_refl _), List.take_of_length_le (by rw [hpl]; exact Nat.le_refl _)]
      exact fold_rev c hps
    rw [e3]
    repeat (first | refine W.val (OpVal.load tab_ok rfl (at_own 0 rfl) rfl) (by decide) (W.step tab_ok rfl rfl ?_) | refine W.val (OpVal.load tab_ok rfl (at_own 1 rfl) rfl) (by decide) (W.step tab_ok rfl rfl ?_) | refine W.val (OpVal.load tab_ok rfl (at_own 2 rfl) rfl) (by decide) (W.step tab_ok rfl rfl ?_) | refine W.val (OpVal.load tab_ok rfl (at_own 3 rfl) rfl) (by decide) (W.step tab_ok rfl rfl ?_) | refine W.val (OpVal.load tab_ok rfl (at_own 4 rfl) rfl) (by decide) (W.step tab_ok rfl rfl ?_) | refine W.val (OpVal.load tab_ok rfl (at_own 5 rfl) rfl) (by decide) (W.step tab_ok rfl rfl ?_) | refine W.val (OpVal.load tab_ok rfl (at_own 6 rfl) rfl) (by decide) (W.step tab_ok rfl rfl ?_) | refine W.val (OpVal.load tab_ok rfl (at_own 7 rfl) rfl) (by decide) (W.step tab_ok rfl rfl ?_) | refine W.val (OpVal.load tab_ok rfl (at_own 8 rfl) rfl) (by decide) (W.step tab_ok rfl rfl ?_) | refine W.val (OpVal.load tab_ok rfl (at_own 9 rfl) rfl) (by decide) (W.step tab_ok rfl rfl ?_) | refine W.val (OpVal.load tab_ok rfl (at_own 10 rfl) rfl) (by decide) (W.step tab_ok rfl rfl ?_) | refine W.val (OpVal.load tab_ok rfl (at_own 11 rfl) rfl) (by decide) (W.step tab_ok rfl rfl ?_) | refine W.val (OpVal.load tab_ok rfl (at_ro 0 rfl) rfl) (by decide) (W.step tab_ok rfl rfl ?_) | refine W.val (OpVal.load tab_ok rfl (at_ro 1 rfl) rfl) (by decide) (W.step tab_ok rfl rfl ?_) | refine W.val (OpVal.load tab_ok rfl (at_ro 2 rfl) rfl) (by decide) (W.step tab_ok rfl rfl ?_) | refine W.val (OpVal.load tab_ok rfl (at_ro 3 rfl) rfl) (by decide) (W.step tab_ok rfl rfl ?_) | refine W.store tab_ok rfl Upd.here rfl rfl rfl rfl rfl rfl (W.step tab_ok rfl rfl ?_) | refine W.store tab_ok rfl (Upd.there Upd.here) rfl rfl rfl rfl rfl rfl (W.step tab_ok rfl rfl ?_) | refine W.store tab_ok rfl (Upd.there (Upd.there Upd.here)) rfl rfl rfl rfl rfl rfl (W.step tab_ok rfl rfl ?_) | refine W.store tab_ok rfl (Upd.there (Upd.there (Upd.there Upd.here))) rfl rfl rfl rfl rfl rfl (W.step tab_ok rfl rfl ?_) | refine W.store tab_ok rfl (Upd.there (Upd.there (Upd.there (Upd.there Upd.here)))) rfl rfl rfl rfl rfl rfl (W.step tab_ok rfl rfl ?_) | refine W.store tab_ok rfl (Upd.there (Upd.there (Upd.there (Upd.there (Upd.there Upd.here))))) rfl rfl rfl rfl rfl rfl (W.step tab_ok rfl rfl ?_) | refine W.store tab_ok rfl (Upd.there (Upd.there (Upd.there (Upd.there (Upd.there (Upd.there Upd.here)))))) rfl rfl rfl rfl rfl rfl (W.step tab_ok rfl rfl ?_) | refine W.store tab_ok rfl (Upd.there (Upd.there (Upd.there (Upd.there (Upd.there (Upd.there (Upd.there Upd.here))))))) rfl rfl rfl rfl rfl rfl (W.step tab_ok rfl rfl ?_) | refine W.store tab_ok rfl (Upd.there (Upd.there (Upd.there (Upd.there (Upd.there (Upd.there (Upd.there (Upd.there Upd.here)))))))) rfl rfl rfl rfl rfl rfl (W.step tab_ok rfl rfl ?_) | refine W.store tab_ok rfl (Upd.there (Upd.there (Upd.there (Upd.there (Upd.there (Upd.there (Upd.there (Upd.there (Upd.there Upd.here))))))))) rfl rfl rfl rfl rfl rfl (W.step tab_ok rfl rfl ?_) | refine W.store tab_ok rfl (Upd.there (Upd.there (Upd.there (Upd.there (Upd.there (Upd.there (Upd.there (Upd.there (Upd.there (Upd.there Upd.here)))))))))) rfl rfl rfl rfl rfl rfl (W.step tab_ok rfl rfl ?_) | refine W.store tab_ok rfl (Upd.there (Upd.there (Upd.there (Upd.there (Upd.there (Upd.there (Upd.there (Upd.there (Upd.there (Upd.there (Upd.there Upd.here))))))))))) rfl rfl rfl rfl rfl rfl (W.step tab_ok rfl rfl ?_) | (refine W.new tab_ok rfl rfl (by decide) ?_; intro _; refine W.step tab_ok rfl rfl ?_) | (refine W.box rfl rfl (by decide) ?_; intro _; refine W.step tab_ok rfl rfl ?_))
    refine W.val (eqC f rfl rfl) (by decide) (W.step tab_ok rfl rfl ?_)
    refine W.guardGo rfl rfl (by rfl) (W.step tab_ok rfl rfl ?_)
    refine W.call rfl rfl rfl rfl (lives_spec) (by repeat (first | exact Sel.nil | (apply Sel.cons; (repeat (first | exact Pick.here | apply Pick.there))))) (by repeat (first | exact RoIn.nil | exact RoIn.same | refine RoIn.cons (by first | exact at_own 0 rfl | exact at_own 1 rfl | exact at_own 2 rfl | exact at_own 3 rfl | exact at_own 4 rfl | exact at_own 5 rfl | exact at_own 6 rfl | exact at_own 7 rfl | exact at_own 8 rfl | exact at_own 9 rfl | exact at_own 10 rfl | exact at_own 11 rfl | exact at_ro 0 rfl | exact at_ro 1 rfl | exact at_ro 2 rfl | exact at_ro 3 rfl | exact at_ro 4 rfl | exact at_ro 5 rfl) ?_ | refine RoIn.append ?_ ?_ | exact RoIn.own 0 rfl | exact RoIn.own 1 rfl | exact RoIn.own 2 rfl | exact RoIn.own 3 rfl | exact RoIn.own 4 rfl | exact RoIn.own 5 rfl | exact RoIn.own 6 rfl | exact RoIn.own 7 rfl | exact RoIn.own 8 rfl | exact RoIn.own 9 rfl | exact RoIn.own 10 rfl | exact RoIn.own 11 rfl | (intro p hp; simp [hp]; done))) (by decide) ?_
    rintro _ _ ⟨rfl, rfl⟩
    refine W.step tab_ok rfl rfl ?_
    refine W.val (OpVal.pickT rfl (by rfl) rfl) (by decide) (W.step tab_ok rfl rfl ?_)
    refine W.ret (fin _ _ (FinOk.mk' ([]) (.tmp rfl .nil) (by repeat (first | exact Sel.nil | (apply Sel.cons; (repeat (first | exact Pick.here | apply Pick.there))))) rfl ?_))
    exact ⟨rfl, rfl⟩
/-! ### Parts -/
def pp (a c : C6) : C6 := ⟨tog a.h c.h, tog a.m c.m, tog a.e c.e, tog a.r c.r, tog a.w c.w, tog a.f c.f⟩
theorem plus_eq (a c : C6) : a.plus c 6 = pp a c := by simp [C6.plus, List.range, List.range.loop, C6.add, C6.get, pp]
theorem pp_ok {a c : C6} (ha : a.Ok) (hc : c.Ok) : (pp a c).Ok := by rw [← plus_eq]; exact C6.plus_ok ha hc 6
theorem pp_assoc {a b c : C6} (ha : a.Ok) (hb : b.Ok) (hc : c.Ok) : pp (pp a b) c = pp a (pp b c) := by
  obtain ⟨a1, a2, a3, a4, a5, a6⟩ := ha
  obtain ⟨b1, b2, b3, b4, b5, b6⟩ := hb
  obtain ⟨c1, c2, c3, c4, c5, c6⟩ := hc
  simp only [pp, tog_assoc _ _ _ a1 b1 c1, tog_assoc _ _ _ a2 b2 c2, tog_assoc _ _ _ a3 b3 c3, tog_assoc _ _ _ a4 b4 c4, tog_assoc _ _ _ a5 b5 c5, tog_assoc _ _ _ a6 b6 c6]
def zero6 : C6 := ⟨0, 0, 0, 0, 0, 0⟩
theorem pp_zero {a : C6} (ha : a.Ok) : pp zero6 a = a := by
  obtain ⟨⟨_, h1⟩, ⟨_, h2⟩, ⟨_, h3⟩, ⟨_, h4⟩, ⟨_, h5⟩, ⟨_, h6⟩⟩ := ha
  simp [pp, zero6, tog, h1, h2, h3, h4, h5, h6]
theorem sumTo_eq (acc : C6) (xs : List C6) : sumTo acc xs = xs.foldl pp acc := by
  unfold sumTo
  induction xs generalizing acc with
  | nil => rfl
  | cons x xs ih => simp only [List.foldl_cons, plus_eq, ih]
theorem fold_pp {xs : List C6} (hx : ∀ c ∈ xs, c.Ok) : ∀ {a b : C6}, a.Ok → b.Ok → xs.foldl pp (pp a b) = pp a (xs.foldl pp b) := by
  induction xs with
  | nil => intro a b _ _; rfl
  | cons x xs ih =>
    intro a b ha hb
    have hxo := hx x (by simp)
    simp only [List.foldl_cons]
    rw [pp_assoc ha hb hxo]
    exact ih (fun c hc => hx c (by simp [hc])) ha (pp_ok hb hxo)
theorem sum_parts {A B : List C6} (hA : ∀ c ∈ A, c.Ok) (hB : ∀ c ∈ B, c.Ok) : sumC [sumC A, sumC B] = sumC (A ++ B) := by
  have oA := sumC_ok hA
  have oB := sumC_ok hB
  have e : ∀ xs, sumC xs = xs.foldl pp zero6 := fun xs => sumTo_eq _ xs
  rw [e [sumC A, sumC B], e (A ++ B), List.foldl_append, ← e A]
  simp only [List.foldl_cons, List.foldl_nil]
  rw [pp_zero oA]
  have h1 : pp (sumC A) (sumC B) = B.foldl pp (pp (sumC A) zero6) := by rw [fold_pp hB (b := zero6) oA zero_ok, ← e B]
  have h2 : pp (sumC A) zero6 = sumC A := by
    obtain ⟨⟨_, h1⟩, ⟨_, h2⟩, ⟨_, h3⟩, ⟨_, h4⟩, ⟨_, h5⟩, ⟨_, h6⟩⟩ := oA
    generalize sumC A = a at *
    simp [pp, zero6, tog, h1, h2, h3, h4, h5, h6]
  rw [h1, h2]
/-- The back of a slice, whatever it lies over. -/
theorem OpVal.back {P : Program} {n : Nat} {R : HL} {cx : Cx} {ρ : Env} {L : List HL} {T : Tab} (hT : TabOk P T) {t e ty : TypeId} {x y : Operand} {a : Option Addr} {len cap m l : Nat} {ag : Bool} {kk : IntKind} {i : Int}
    (hx : ev? ρ x = some (.slice a len cap)) (ht : look? T.sls t = some e) (hz : look? T.tys e = some (ag, m)) (hy : ev? ρ y = some (.int kk i)) (hi : i = (l : Int)) (h1 : l ≤ len) (h2 : len ≤ cap) :
    OpVal P n R cx (.slice t x (some y) none none) ty ρ L (.slice (if cap = l then a else a.map (·.add (l * m))) (len - l) (cap - l)) := by
  refine ⟨fun oo ac w ho hty hf hs => ?_⟩
  have hu := hT.sls _ (look?_mem ht)
  have hz' := (hT.tys _ (look?_mem hz)).2
  subst hi
  unfold execOp; rw [ho]
  cases a <;> simp [Instr.sliceAt, Instr.slice, Instr.sliceBounds, Instr.sliceBound, asIntOf, underlying, hu, hf.ev hx, hf.ev hy, hz' w, h1, h2]
theorem RoSl.drop {α : Type} {f : α → List Value} {m : Nat} (hf : ∀ x, (f x).length = m) {xs : List α} {a : Option Addr} {ro : HL} (h : RoSl m (xs.flatMap f) a xs.length ro) {l cap : Nat} (hl : l ≤ xs.length) (hc : xs.length ≤ cap) :
    ∃ ro', (ro' = [] ∨ ro' = ro) ∧ RoSl m ((xs.drop l).flatMap f) (if cap = l then a else a.map (·.add (l * m))) (xs.length - l) ro' := by
  by_cases h0 : xs.length - l = 0
  · have : xs.drop l = [] := List.drop_eq_nil_of_le (by omega)
    exact ⟨[], .inl rfl, by rw [this, h0]; exact ⟨by simp, .inl ⟨rfl, rfl⟩⟩⟩
  · rcases h.2 with ⟨h1, _⟩ | ⟨b, off, lv, e', fr, rfl, rfl, h3, h4⟩
    · omega
    · refine ⟨_, .inr rfl, by rw [flatMap_len f m hf, List.length_drop], .inr ⟨b, off + l * m, lv, e', fr, ?_, rfl, ?_, ?_⟩⟩
      · rw [if_neg (by omega)]; simp [Addr.add_none']
      · rw [Nat.add_assoc, ← Nat.add_mul, show l + (xs.length - l) = xs.length from by omega]; exact h3
      · have e1 : (xs.drop l).flatMap f = (xs.flatMap f).drop (l * m) := by
          have h5 : xs.flatMap f = (xs.take l).flatMap f ++ (xs.drop l).flatMap f := by rw [← List.flatMap_append, List.take_append_drop]
          have h6 : ((xs.take l).flatMap f).length = l * m := by rw [flatMap_len f m hf, List.length_take]; congr 1; omega
          rw [h5, ← h6, List.drop_left]
        rw [e1, ← h4, ← List.drop_drop, List.drop_take]
        congr 1
        rw [Nat.sub_mul]
theorem CountParts_spec (xs : List C6) (hx : ∀ c ∈ xs, c.Ok) (a : Option Addr) (cap : Nat) (hcap : xs.length ≤ cap) (ro : HL) (hro : RoSl 6 (xs.flatMap C6.l) a xs.length ro) (k : Int) (hk : i64s k) :
    Ctr Try.prog 8 [.slice a xs.length cap, .int .i64 k] [] ro (fun v L' => v = .bool true ∧ L' = []) := by
  refine Ctr.enter (n := 33) [.tmp 4] [(0, _), (1, _)] Try.func8 rfl rfl rfl (Nat.le_of_ble_eq_true rfl) Try.call8 ⟨rfl, rfl, trivial⟩ ?_
  intro cx fin fin0
  refine W.step tab_ok rfl rfl ?_
  refine W.val (OpVal.min2 rfl rfl) (by decide) (W.step tab_ok rfl rfl ?_)
  have hmin : (if (8 : Int) < (xs.length : Int) then (8 : Int) else (xs.length : Int)) = ((min xs.length 8 : Nat) : Int) := by split <;> omega
  refine W.val (OpVal.front tab_ok rfl rfl rfl rfl hmin (by omega)) (by decide) (W.step tab_ok rfl rfl ?_)
  have hys : ∀ c ∈ xs.take (min xs.length 8), c.Ok := fun c hc => hx c (List.mem_of_mem_take hc)
  have hroy : RoSl 6 ((xs.take (min xs.length 8)).flatMap C6.l) a (min xs.length 8) ro := RoSl.take C6.l_len hro _ (by omega)
  have hyl : (xs.take (min xs.length 8)).length = min xs.length 8 := by simp
  generalize xs.take (min xs.length 8) = ys at hys hroy hyl
  have hy6 : ys.length ≤ 8 := by omega
  have hyc : ys.length ≤ cap := by omega
  rw [← hyl] at hroy ⊢
  refine W.val (OpVal.add rfl rfl (i64_in _ (by omega))) (by decide) (W.step tab_ok rfl rfl ?_)
  refine W.call rfl rfl rfl rfl (Around_spec k ((ys.length : Int) + 1) hk (by omega)) (by repeat (first | exact Sel.nil | (apply Sel.cons; (repeat (first | exact Pick.here | apply Pick.there))))) (by repeat (first | exact RoIn.nil | exact RoIn.same | refine RoIn.cons (by first | exact at_own 0 rfl | exact at_own 1 rfl | exact at_own 2 rfl | exact at_own 3 rfl | exact at_own 4 rfl | exact at_own 5 rfl | exact at_own 6 rfl | exact at_own 7 rfl | exact at_own 8 rfl | exact at_own 9 rfl | exact at_own 10 rfl | exact at_own 11 rfl | exact at_ro 0 rfl | exact at_ro 1 rfl | exact at_ro 2 rfl | exact at_ro 3 rfl | exact at_ro 4 rfl | exact at_ro 5 rfl) ?_ | refine RoIn.append ?_ ?_ | exact RoIn.own 0 rfl | exact RoIn.own 1 rfl | exact RoIn.own 2 rfl | exact RoIn.own 3 rfl | exact RoIn.own 4 rfl | exact RoIn.own 5 rfl | exact RoIn.own 6 rfl | exact RoIn.own 7 rfl | exact RoIn.own 8 rfl | exact RoIn.own 9 rfl | exact RoIn.own 10 rfl | exact RoIn.own 11 rfl | (intro p hp; simp [hp]; done))) (by decide) ?_
  rintro _ _ ⟨rfl, rfl⟩
  refine W.step tab_ok rfl rfl ?_
  have hq := around_range k ((ys.length : Int) + 1) (by omega)
  generalize around k ((ys.length : Int) + 1) = q at hq
  obtain ⟨j, rfl⟩ : ∃ j : Nat, q = (j : Int) := ⟨q.toNat, by omega⟩
  have hj : j ≤ ys.length := by omega
  obtain ⟨ro2, hro2, hrob⟩ := RoSl.drop C6.l_len hroy hj hyc
  have hA : ∀ c ∈ ys.take j, c.Ok := fun c hc => hys c (List.mem_of_mem_take hc)
  have hB : ∀ c ∈ ys.drop j, c.Ok := fun c hc => hys c (List.mem_of_mem_drop hc)
  have hroa : RoSl 6 ((ys.take j).flatMap C6.l) a j ro := RoSl.take C6.l_len hroy _ hj
  have eAB : sumC [sumC (ys.take j), sumC (ys.drop j)] = sumC ys := by rw [sum_parts hA hB, List.take_append_drop]
  have lA : (ys.take j).length = j := by simp; omega
  have lB : (ys.drop j).length = ys.length - j := by simp
  have oA := sumC_ok hA
  have oB := sumC_ok hB
  have SA := Sum_spec (ys.take j) hA (by omega) a cap ro (by rw [lA]; exact hroa)
  rw [lA] at SA
  have SB := Sum_spec (ys.drop j) hB (by omega) (if cap = j then a else a.map (·.add (j * 6))) (cap - j) ro2 (by rw [lB]; exact hrob)
  rw [lB] at SB
  have SS := Sum_spec ys hys (by omega) a cap ro hroy
  generalize sumC (ys.take j) = x1 at SA eAB oA
  generalize sumC (ys.drop j) = x2 at SB eAB oB
  rcases hro2 with rfl | rfl
  all_goals
    refine W.drawH 17 [false, false, false, true, false, false, false, true, true, true, false, true, false, false, true, false, false] [] follows (by decide +kernel) rfl ?_
    intro _
    refine WD.step tab_ok rfl rfl ?_
    refine WD.val (OpVal.front tab_ok rfl rfl rfl rfl rfl (by omega)) (by decide) (WD.step tab_ok rfl rfl ?_)
    refine WD.call rfl rfl rfl rfl (SA) (by repeat (first | exact Sel.nil | (apply Sel.cons; (repeat (first | exact Pick.here | apply Pick.there))))) (by repeat (first | exact RoIn.nil | exact RoIn.same | refine RoIn.cons (by first | exact at_own 0 rfl | exact at_own 1 rfl | exact at_own 2 rfl | exact at_own 3 rfl | exact at_own 4 rfl | exact at_own 5 rfl | exact at_own 6 rfl | exact at_own 7 rfl | exact at_own 8 rfl | exact at_own 9 rfl | exact at_own 10 rfl | exact at_own 11 rfl | exact at_ro 0 rfl | exact at_ro 1 rfl | exact at_ro 2 rfl | exact at_ro 3 rfl | exact at_ro 4 rfl | exact at_ro 5 rfl) ?_ | refine RoIn.append ?_ ?_ | exact RoIn.own 0 rfl | exact RoIn.own 1 rfl | exact RoIn.own 2 rfl | exact RoIn.own 3 rfl | exact RoIn.own 4 rfl | exact RoIn.own 5 rfl | exact RoIn.own 6 rfl | exact RoIn.own 7 rfl | exact RoIn.own 8 rfl | exact RoIn.own 9 rfl | exact RoIn.own 10 rfl | exact RoIn.own 11 rfl | (intro p hp; simp [hp]; done))) (by decide) ?_
    rintro _ _ ⟨rfl, rfl⟩
    refine WD.step tab_ok rfl rfl ?_
    refine WD.val (OpVal.back tab_ok rfl rfl rfl rfl rfl hj hyc) (by decide) (WD.step tab_ok rfl rfl ?_)
    refine WD.call rfl rfl rfl rfl (SB) (by repeat (first | exact Sel.nil | (apply Sel.cons; (repeat (first | exact Pick.here | apply Pick.there))))) (by repeat (first | exact RoIn.nil | exact RoIn.same | refine RoIn.cons (by first | exact at_own 0 rfl | exact at_own 1 rfl | exact at_own 2 rfl | exact at_own 3 rfl | exact at_own 4 rfl | exact at_own 5 rfl | exact at_own 6 rfl | exact at_own 7 rfl | exact at_own 8 rfl | exact at_own 9 rfl | exact at_own 10 rfl | exact at_own 11 rfl | exact at_ro 0 rfl | exact at_ro 1 rfl | exact at_ro 2 rfl | exact at_ro 3 rfl | exact at_ro 4 rfl | exact at_ro 5 rfl) ?_ | refine RoIn.append ?_ ?_ | exact RoIn.own 0 rfl | exact RoIn.own 1 rfl | exact RoIn.own 2 rfl | exact RoIn.own 3 rfl | exact RoIn.own 4 rfl | exact RoIn.own 5 rfl | exact RoIn.own 6 rfl | exact RoIn.own 7 rfl | exact RoIn.own 8 rfl | exact RoIn.own 9 rfl | exact RoIn.own 10 rfl | exact RoIn.own 11 rfl | (intro p hp; simp [hp]; done))) (by decide) ?_
    rintro _ _ ⟨rfl, rfl⟩
    refine WD.step tab_ok rfl rfl ?_
    refine WD.new_ (NewOf.slit (ps := [_, _]) tab_ok rfl rfl rfl rfl rfl rfl rfl (by repeat (first | exact trivial | refine ⟨⟨_, _, _, rfl, rfl, rfl⟩, ?_⟩)) rfl (by decide)) (by decide) ?_
    intro b
    refine WD.step tab_ok rfl rfl ?_
    have S2 := Sum_spec [x1, x2] (by simp [oA, oB]) (by simp) (some ⟨b, 0, none⟩) 2 [(b, .cells (x1.l ++ x2.l).toArray 28 (0, 0))] ⟨rfl, .inr ⟨b, 0, _, _, _, rfl, rfl, Nat.le_refl _, rfl⟩⟩
    rw [eAB] at S2
    refine WD.call rfl rfl rfl rfl (S2) (by repeat (first | exact Sel.nil | (apply Sel.cons; (repeat (first | exact Pick.here | apply Pick.there))))) (by repeat (first | exact RoIn.nil | exact RoIn.same | refine RoIn.cons (by first | exact at_own 0 rfl | exact at_own 1 rfl | exact at_own 2 rfl | exact at_own 3 rfl | exact at_own 4 rfl | exact at_own 5 rfl | exact at_own 6 rfl | exact at_own 7 rfl | exact at_own 8 rfl | exact at_own 9 rfl | exact at_own 10 rfl | exact at_own 11 rfl | exact at_ro 0 rfl | exact at_ro 1 rfl | exact at_ro 2 rfl | exact at_ro 3 rfl | exact at_ro 4 rfl | exact at_ro 5 rfl) ?_ | refine RoIn.append ?_ ?_ | exact RoIn.own 0 rfl | exact RoIn.own 1 rfl | exact RoIn.own 2 rfl | exact RoIn.own 3 rfl | exact RoIn.own 4 rfl | exact RoIn.own 5 rfl | exact RoIn.own 6 rfl | exact RoIn.own 7 rfl | exact RoIn.own 8 rfl | exact RoIn.own 9 rfl | exact RoIn.own 10 rfl | exact RoIn.own 11 rfl | (intro p hp; simp [hp]; done))) (by decide) ?_
    rintro _ _ ⟨rfl, rfl⟩
    refine WD.step tab_ok rfl rfl ?_
    refine WD.call rfl rfl rfl rfl (SS) (by repeat (first | exact Sel.nil | (apply Sel.cons; (repeat (first | exact Pick.here | apply Pick.there))))) (by repeat (first | exact RoIn.nil | exact RoIn.same | refine RoIn.cons (by first | exact at_own 0 rfl | exact at_own 1 rfl | exact at_own 2 rfl | exact at_own 3 rfl | exact at_own 4 rfl | exact at_own 5 rfl | exact at_own 6 rfl | exact at_own 7 rfl | exact at_own 8 rfl | exact at_own 9 rfl | exact at_own 10 rfl | exact at_own 11 rfl | exact at_ro 0 rfl | exact at_ro 1 rfl | exact at_ro 2 rfl | exact at_ro 3 rfl | exact at_ro 4 rfl | exact at_ro 5 rfl) ?_ | refine RoIn.append ?_ ?_ | exact RoIn.own 0 rfl | exact RoIn.own 1 rfl | exact RoIn.own 2 rfl | exact RoIn.own 3 rfl | exact RoIn.own 4 rfl | exact RoIn.own 5 rfl | exact RoIn.own 6 rfl | exact RoIn.own 7 rfl | exact RoIn.own 8 rfl | exact RoIn.own 9 rfl | exact RoIn.own 10 rfl | exact RoIn.own 11 rfl | (intro p hp; simp [hp]; done))) (by decide) ?_
    rintro _ _ ⟨rfl, rfl⟩
    refine WD.step tab_ok rfl rfl ?_
    refine WD.val (eqC (sumC ys) rfl rfl) (by decide) (WD.step tab_ok rfl rfl ?_)
    refine WD.guardGoCall rfl rfl (by rfl) rfl rfl rfl rfl (lives_spec) (by repeat (first | exact Sel.nil | (apply Sel.cons; (repeat (first | exact Pick.here | apply Pick.there))))) (by repeat (first | exact RoIn.nil | exact RoIn.same | refine RoIn.cons (by first | exact at_own 0 rfl | exact at_own 1 rfl | exact at_own 2 rfl | exact at_own 3 rfl | exact at_own 4 rfl | exact at_own 5 rfl | exact at_own 6 rfl | exact at_own 7 rfl | exact at_own 8 rfl | exact at_own 9 rfl | exact at_own 10 rfl | exact at_own 11 rfl | exact at_ro 0 rfl | exact at_ro 1 rfl | exact at_ro 2 rfl | exact at_ro 3 rfl | exact at_ro 4 rfl | exact at_ro 5 rfl) ?_ | refine RoIn.append ?_ ?_ | exact RoIn.own 0 rfl | exact RoIn.own 1 rfl | exact RoIn.own 2 rfl | exact RoIn.own 3 rfl | exact RoIn.own 4 rfl | exact RoIn.own 5 rfl | exact RoIn.own 6 rfl | exact RoIn.own 7 rfl | exact RoIn.own 8 rfl | exact RoIn.own 9 rfl | exact RoIn.own 10 rfl | exact RoIn.own 11 rfl | (intro p hp; simp [hp]; done))) (by decide) ?_
    rintro _ _ ⟨rfl, rfl⟩
    refine WD.step tab_ok rfl rfl ?_
    refine WD.val (OpVal.pickT rfl (by rfl) rfl) (by decide) (WD.step tab_ok rfl rfl ?_)
    refine WD.nil (W.step tab_ok rfl rfl ?_)
    refine W.ret (fin _ _ (FinOk.mk' ([]) (.tmp rfl .nil) (by repeat (first | exact Sel.nil | (apply Sel.cons; (repeat (first | exact Pick.here | apply Pick.there))))) rfl ?_))
    exact ⟨rfl, rfl⟩
end Go.Proofs.Ytjpinfnbamigcaa
