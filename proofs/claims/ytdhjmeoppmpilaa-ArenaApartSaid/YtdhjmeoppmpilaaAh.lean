/-
  How many frames are used is told, and behind Clear none is.
-/
import Derived.Test.YtdhjmeoppmpilaaAg
namespace Go.Proofs.Ytdhjmeoppmpilaa
open Go Go.Sl Go.IntWalk
set_option maxHeartbeats 4000000
set_option maxRecDepth 20000
def bools (us : List Bool) : List Value := us.map .bool
theorem bools_set (us : List Bool) (n : Nat) (v : Bool) : (bools us).set n (.bool v) = bools (us.set n v) := by simp [bools]
theorem splice1 {l : List Value} {n : Nat} (h : n < l.length) (v : Value) : splice? l (0 + n * 1) [v] = some (l.set n v) := by
  rw [splice?_of _ _ _ (by simp; omega)]
  congr 1
  simp only [Nat.zero_add, Nat.mul_one, List.length_singleton]
  rw [List.set_eq_take_append_cons_drop, if_pos h, List.append_assoc]
  rfl
theorem made_marked {ys : List Int} (h : ∀ n ∈ ys, 1 ≤ n ∧ n ≤ 64) : Marked ys (List.replicate 20 false) (made ys) := by
  have hlen : (made ys).length = ys.length := by simp [made]
  have hget : ∀ t (h1 : t < (made ys).length) (h2 : t < ys.length), (made ys)[t] = Pt.new ys[t].toNat := fun t h1 h2 => by simp [made]
  refine ⟨hlen, fun t ht => ?_, fun t ht => ?_, fun t ht k hk => ?_⟩
  · rw [hget t ht (by omega)]
    have := h _ (List.getElem_mem (show t < ys.length by omega))
    exact Pt.new_inv (by omega) (by omega)
  · refine ⟨by omega, ?_⟩
    rw [hget t ht (by omega)]
    have := h _ (List.getElem_mem (show t < ys.length by omega))
    simp [Pt.new]; omega
  · have e := hget t ht (by omega)
    have hu : ((made ys)[t].fs[k]).used = false := by
      have hz : ∀ f ∈ (made ys)[t].fs, f = Fr.zero := by
        rw [e]
        intro f hf
        simp [Pt.new] at hf
        exact hf.2
      rw [hz _ (List.getElem_mem hk)]
      rfl
    rw [hu]
    refine ⟨?_, fun h => by cases h⟩
    rw [List.getD_eq_getElem?_getD, List.getElem?_replicate]
    split <;> rfl
theorem ArenaClears_spec (xs : List Int) (hx : ∀ x ∈ xs, i64s x) (a : Option Addr) (cap : Nat) (ro : HL) (hro : RoSl 1 (ints xs) a xs.length ro)
    (zs : List Int) (hz : ∀ z ∈ zs, i64s z) (az : Option Addr) (cz : Nat) (rz : HL) (hrz : RoSl 1 (ints zs) az zs.length rz) :
    Ctr Try.prog 7 [.slice a xs.length cap, .slice az zs.length cz] [] (ro ++ rz) (fun v L' => v = .bool true ∧ L' = []) := by
  refine Ctr.enter (n := 100) [.tmp 4] [(0, _), (1, _)] Try.func7 rfl rfl rfl (Nat.le_of_ble_eq_true rfl) Try.call7 ⟨rfl, rfl, trivial⟩ ?_
  intro cx fin fin0
  refine W.step tab_ok rfl rfl ?_
  refine W.call rfl rfl rfl rfl (Good_spec xs hx a cap ro hro) (by repeat (first | exact Sel.nil | (apply Sel.cons; (repeat (first | exact Pick.here | apply Pick.there))))) (RoIn.all (fun p hp => by simp [hp])) (by exact Nat.le_of_ble_eq_true rfl) ?_
  rintro _ _ ⟨ys, ay, cy, Hy, rfl, rfl, hown, hsm, hy1, hy4⟩
  refine W.step tab_ok rfl rfl ?_
  obtain ⟨bY, lY, rfl, rfl, hY1, hY2, hY3⟩ := hown.some (by omega)
  have hroY := Own.roSl hown
  have hp : ∀ n ∈ ys, 0 ≤ n := fun n hn => by have := hsm n hn; omega
  have hb := isum_bound (ls := ys) (k := 3) (fun n hn => by have := hsm n hn; omega)
  have hT := tot_made hp
  refine W.call rfl rfl rfl rfl (Cut_spec ys (some ⟨bY, 0, none⟩) cy _ hroY) (by repeat (first | exact Sel.nil | (apply Sel.cons; (repeat (first | exact Pick.here | apply Pick.there))))) (by repeat (first | exact RoIn.nil | exact RoIn.same | refine RoIn.cons (by first | exact at_own 0 rfl | exact at_own 1 rfl | exact at_own 2 rfl | exact at_own 3 rfl | exact at_own 4 rfl | exact at_own 5 rfl | exact at_own 6 rfl | exact at_own 7 rfl | exact at_own 8 rfl | exact at_own 9 rfl | exact at_own 10 rfl | exact at_own 11 rfl | exact at_ro 0 rfl | exact at_ro 1 rfl | exact at_ro 2 rfl | exact at_ro 3 rfl | exact at_ro 4 rfl | exact at_ro 5 rfl) ?_ | refine RoIn.append ?_ ?_ | exact RoIn.own 0 rfl | exact RoIn.own 1 rfl | exact RoIn.own 2 rfl | exact RoIn.own 3 rfl | exact RoIn.own 4 rfl | exact RoIn.own 5 rfl | exact RoIn.own 6 rfl | exact RoIn.own 7 rfl | exact RoIn.own 8 rfl | exact RoIn.own 9 rfl | exact RoIn.own 10 rfl | exact RoIn.own 11 rfl | (intro p hp; simp [hp]; done))) (by exact Nat.le_of_ble_eq_true rfl) ?_
  rintro _ _ (⟨hno, rfl, rfl⟩ | ⟨hyes, b, H, rfl, rfl, ha⟩)
  · exact absurd ⟨hy1, by omega, fun n hn => by have := hsm n hn; omega, by rw [hT]; omega⟩ hno
  have hmark0 := made_marked hyes.2.2.1
  have hused0 := made_used ys
  refine W.step tab_ok rfl rfl ?_
  repeat (first | (refine W.isGuard ?_; first | refine W.guardGo rfl rfl (by first | rfl | (simp []; done) | omega) (W.step tab_ok rfl rfl ?_) | refine W.guardSkip rfl rfl (by first | rfl | (simp []; done) | omega) (by exact Nat.le_of_ble_eq_true rfl) (W.step tab_ok rfl rfl ?_) | refine W.guardUndef rfl rfl (by exact Nat.le_of_ble_eq_true rfl) (W.step tab_ok rfl rfl ?_)) | (refine W.isPick ?_; first | refine W.val (OpVal.pickT rfl (by first | rfl | (simp []; done) | omega) rfl) (by exact Nat.le_of_ble_eq_true rfl) (W.step tab_ok rfl rfl ?_) | refine W.val (OpVal.pickF rfl (by first | rfl | (simp []; done) | omega) rfl) (by exact Nat.le_of_ble_eq_true rfl) (W.step tab_ok rfl rfl ?_)) | (refine W.isBin ?_; first | refine W.val (OpVal.neBool tab_ok rfl rfl rfl) (by exact Nat.le_of_ble_eq_true rfl) (W.step tab_ok rfl rfl ?_) | refine W.val (OpVal.eqBool tab_ok rfl rfl rfl) (by exact Nat.le_of_ble_eq_true rfl) (W.step tab_ok rfl rfl ?_) | refine W.val (OpVal.eqNil tab_ok rfl rfl rfl) (by exact Nat.le_of_ble_eq_true rfl) (W.step tab_ok rfl rfl ?_) | refine W.val (OpVal.neNil tab_ok rfl rfl rfl) (by exact Nat.le_of_ble_eq_true rfl) (W.step tab_ok rfl rfl ?_)))
  refine W.iteF rfl (by rfl) (W.step tab_ok rfl rfl ?_)
  refine W.nw (NewOf.mks (bytes := 1) (len := 20) (cap := 20) tab_ok rfl rfl rfl rfl rfl rfl rfl rfl rfl (Nat.le_refl _) (by decide) (by decide)) (by exact Nat.le_of_ble_eq_true rfl) ?_
  intro _
  refine W.step tab_ok rfl rfl ?_
  rename_i bu
  rw [show repL 20 [.bool false] = bools (List.replicate 20 false) from rfl]
  refine W.loop (fun q ρ1 L1 => ∃ (j : Nat) (us : List Bool) (ps : List Pt) (un : Int) (H' : HL), j ≤ 6 ∧ Marked ys us ps ∧ us.length = 20 ∧ un = tot usedN ps ∧ 0 ≤ un ∧ un ≤ j ∧ ArAt ps b H' ∧ q = 6 - j ∧ ρ1 = [(10, .int .i64 (j : Int)), (9, .int .i64 un), (8, .slice (some ⟨bu, 0, none⟩) 20 20), (6, .pointer (some ⟨b, 0, none⟩)), (1, .slice az zs.length cz)] ∧ L1 = [[(bu, .cells (bools us).toArray 4 (0, 0))], H']) _ _ _ (by repeat (first | exact trivial | refine ⟨rfl, ?_⟩)) (by repeat (first | exact Sel.nil | (apply Sel.cons; (repeat (first | exact Pick.here | apply Pick.there))))) (⟨0, List.replicate 20 false, made ys, 0, H, by decide, hmark0, by simp, hused0.symm, by decide, by decide, ha, rfl, rfl, rfl⟩) ?_
  rintro q ρ1 L1 ⟨j, us, ps, un, H', hj, hm, hul, hun0, hu0, huj, ha', rfl, rfl, rfl⟩
  have hml := hm.len
  have hok : ∀ p ∈ ps, p.Ok := fun p hpm => by
    obtain ⟨t, ht, rfl⟩ := List.getElem_of_mem hpm
    exact (hm.inv t ht).ok
  have hinv : ∀ p ∈ ps, p.Inv := fun p hpm => by
    obtain ⟨t, ht, rfl⟩ := List.getElem_of_mem hpm
    exact hm.inv t ht
  have hl : ps.length ≤ 1000 := by omega
  have htt : ∀ i, i ≤ ps.length → tot flen (ps.take i) = isum (ys.take i) := by
    intro i
    induction i with
    | zero => intro _; simp [tot, isum]
    | succ i ih =>
      intro hi
      obtain ⟨h2, h3⟩ := hm.fl i (by omega)
      rw [tot_next flen (by omega), ih (by omega), isum_next h2]
      show isum (ys.take i) + flen ps[i] = _
      unfold flen
      rw [h3]
  have htot : tot flen ps = isum ys := by
    have := htt ps.length (Nat.le_refl _)
    rwa [List.take_length, hml, List.take_length] at this
  have hF := Frames_spec ps hok hl b H' ha'
  have hO := Of_spec ps hok hl b H' ha'
  rw [htot] at hF
  refine W.step tab_ok rfl rfl ?_
  by_cases hc : j < zs.length ∧ j < 6
  · repeat (first | (refine W.isGuard ?_; first | refine W.guardGo rfl rfl (by first | rfl | (simp [hc.1, hc.2]; done) | omega) (W.step tab_ok rfl rfl ?_) | refine W.guardSkip rfl rfl (by first | rfl | (simp [hc.1, hc.2]; done) | omega) (by exact Nat.le_of_ble_eq_true rfl) (W.step tab_ok rfl rfl ?_) | refine W.guardUndef rfl rfl (by exact Nat.le_of_ble_eq_true rfl) (W.step tab_ok rfl rfl ?_)) | (refine W.isPick ?_; first | refine W.val (OpVal.pickT rfl (by first | rfl | (simp [hc.1, hc.2]; done) | omega) rfl) (by exact Nat.le_of_ble_eq_true rfl) (W.step tab_ok rfl rfl ?_) | refine W.val (OpVal.pickF rfl (by first | rfl | (simp [hc.1, hc.2]; done) | omega) rfl) (by exact Nat.le_of_ble_eq_true rfl) (W.step tab_ok rfl rfl ?_)) | (refine W.isBin ?_; first | refine W.val (OpVal.neBool tab_ok rfl rfl rfl) (by exact Nat.le_of_ble_eq_true rfl) (W.step tab_ok rfl rfl ?_) | refine W.val (OpVal.eqBool tab_ok rfl rfl rfl) (by exact Nat.le_of_ble_eq_true rfl) (W.step tab_ok rfl rfl ?_) | refine W.val (OpVal.eqNil tab_ok rfl rfl rfl) (by exact Nat.le_of_ble_eq_true rfl) (W.step tab_ok rfl rfl ?_) | refine W.val (OpVal.neNil tab_ok rfl rfl rfl) (by exact Nat.le_of_ble_eq_true rfl) (W.step tab_ok rfl rfl ?_)))
    refine W.iteT rfl (by simp; omega) (W.step tab_ok rfl rfl ?_)
    rcases hrz.2 with ⟨h0, _⟩ | ⟨bx, ox, lx, ex, frx, rfl, rfl, hlx, hcx⟩
    · omega
    have hld := int_at hlx hcx hc.1
    have hxi := hz _ (List.getElem_mem hc.1)
    generalize zs[j] = z at hld hxi
    have hT1 : 0 < isum ys := by
      have := tot_bound flen (ps := ps) (fun p hpm => flen_ok (hok p hpm))
      have h0 : 0 < ps.length := by omega
      have h1 := isum_mono hp (show 0 + 1 ≤ ys.length by omega) (Nat.le_refl _)
      have h2 := isum_next (ls := ys) (i := 0) (by omega)
      have h3 := hsm _ (List.getElem_mem (show 0 < ys.length by omega))
      rw [List.take_length] at h1
      have h4 : isum (ys.take 0) = 0 := by simp [isum]
      omega
    have hA := Around_spec z (isum ys) hxi hT1
    have hr := around_range z (isum ys) hT1
    refine W.draw follows (by decide +kernel) (WZ.drive tab_ok rfl ?_)
    refine WZ.val (OpVal.ixSl tab_ok rfl rfl rfl rfl rfl hc.1) (by exact Nat.le_of_ble_eq_true rfl) (WZ.drive tab_ok rfl ?_)
    refine WZ.val (OpVal.load tab_ok rfl (show At _ _ bx (.cells lx.toArray ex frx) from .inr (by simp)) hld) (by exact Nat.le_of_ble_eq_true rfl) (WZ.drive tab_ok rfl ?_)
    refine WZ.call (_) rfl rfl rfl rfl (hF) (by repeat (first | exact RoIn.nil | exact RoIn.same | refine RoIn.cons (by first | exact at_own 0 rfl | exact at_own 1 rfl | exact at_own 2 rfl | exact at_own 3 rfl | exact at_own 4 rfl | exact at_own 5 rfl | exact at_own 6 rfl | exact at_own 7 rfl | exact at_own 8 rfl | exact at_own 9 rfl | exact at_own 10 rfl | exact at_own 11 rfl | exact at_ro 0 rfl | exact at_ro 1 rfl | exact at_ro 2 rfl | exact at_ro 3 rfl | exact at_ro 4 rfl | exact at_ro 5 rfl) ?_ | refine RoIn.append ?_ ?_ | exact RoIn.own 0 rfl | exact RoIn.own 1 rfl | exact RoIn.own 2 rfl | exact RoIn.own 3 rfl | exact RoIn.own 4 rfl | exact RoIn.own 5 rfl | exact RoIn.own 6 rfl | exact RoIn.own 7 rfl | exact RoIn.own 8 rfl | exact RoIn.own 9 rfl | exact RoIn.own 10 rfl | exact RoIn.own 11 rfl | (intro p hp; simp [hp]; done))) (by exact Nat.le_of_ble_eq_true rfl) (by rintro _ _ ⟨rfl, rfl⟩; rfl) (WZ.drive tab_ok rfl ?_)
    refine WZ.call (_) rfl rfl rfl rfl (hA) (by repeat (first | exact RoIn.nil | exact RoIn.same | refine RoIn.cons (by first | exact at_own 0 rfl | exact at_own 1 rfl | exact at_own 2 rfl | exact at_own 3 rfl | exact at_own 4 rfl | exact at_own 5 rfl | exact at_own 6 rfl | exact at_own 7 rfl | exact at_own 8 rfl | exact at_own 9 rfl | exact at_own 10 rfl | exact at_own 11 rfl | exact at_ro 0 rfl | exact at_ro 1 rfl | exact at_ro 2 rfl | exact at_ro 3 rfl | exact at_ro 4 rfl | exact at_ro 5 rfl) ?_ | refine RoIn.append ?_ ?_ | exact RoIn.own 0 rfl | exact RoIn.own 1 rfl | exact RoIn.own 2 rfl | exact RoIn.own 3 rfl | exact RoIn.own 4 rfl | exact RoIn.own 5 rfl | exact RoIn.own 6 rfl | exact RoIn.own 7 rfl | exact RoIn.own 8 rfl | exact RoIn.own 9 rfl | exact RoIn.own 10 rfl | exact RoIn.own 11 rfl | (intro p hp; simp [hp]; done))) (by exact Nat.le_of_ble_eq_true rfl) (by rintro _ _ ⟨rfl, rfl⟩; rfl) (WZ.drive tab_ok rfl ?_)
    refine WZ.nil (W.step tab_ok rfl rfl ?_)
    generalize around z (isum ys) = n0 at hr
    obtain ⟨n, rfl⟩ : ∃ n : Nat, n0 = (n : Int) := ⟨n0.toNat, by omega⟩
    refine W.call rfl rfl rfl rfl (hO (n : Int) ⟨by omega, by omega⟩) (by repeat (first | exact Sel.nil | (apply Sel.cons; (repeat (first | exact Pick.here | apply Pick.there))))) (by repeat (first | exact RoIn.nil | exact RoIn.same | refine RoIn.cons (by first | exact at_own 0 rfl | exact at_own 1 rfl | exact at_own 2 rfl | exact at_own 3 rfl | exact at_own 4 rfl | exact at_own 5 rfl | exact at_own 6 rfl | exact at_own 7 rfl | exact at_own 8 rfl | exact at_own 9 rfl | exact at_own 10 rfl | exact at_own 11 rfl | exact at_ro 0 rfl | exact at_ro 1 rfl | exact at_ro 2 rfl | exact at_ro 3 rfl | exact at_ro 4 rfl | exact at_ro 5 rfl) ?_ | refine RoIn.append ?_ ?_ | exact RoIn.own 0 rfl | exact RoIn.own 1 rfl | exact RoIn.own 2 rfl | exact RoIn.own 3 rfl | exact RoIn.own 4 rfl | exact RoIn.own 5 rfl | exact RoIn.own 6 rfl | exact RoIn.own 7 rfl | exact RoIn.own 8 rfl | exact RoIn.own 9 rfl | exact RoIn.own 10 rfl | exact RoIn.own 11 rfl | (intro p hp; simp [hp]; done))) (by exact Nat.le_of_ble_eq_true rfl) ?_
    rintro _ _ ⟨rfl, ⟨rfl, n1⟩ | ⟨t, rfl, p0, q1, q2, q3⟩⟩
    · rw [htot] at n1; omega
    rw [htt t (by omega)] at q2 ⊢
    rw [htt (t + 1) (by omega)] at q3
    obtain ⟨y1, y2⟩ := hm.fl t q1
    have y3 := isum_next y1
    obtain ⟨k, hk⟩ : ∃ k : Nat, (n : Int) - isum (ys.take t) = (k : Int) := ⟨((n : Int) - isum (ys.take t)).toNat, by omega⟩
    rw [hk]
    have hkl : k < ps[t].fs.length := by omega
    obtain ⟨m1, m2, m3⟩ := hm.next hp q1 hkl (n := n) (by omega) (by omega)
    have hul2 : (us.set n true).length = 20 := by simp [hul]
    obtain ⟨bs, bl, acap, l, hL⟩ := ha'.l
    obtain ⟨bi, Ho, Hi, H2, g1, rfl, g2, g3⟩ := hL.focus q1
    have hPt := hL.part q1 g1
    have hLd := fun bz => Load_spec ps[t] (hm.inv t q1).ok bi Hi g2 (k : Int) (n : Int) zeros (some ⟨bz, 0, none⟩) 32 [(bz, .cells (u8s zeros).toArray 5 (0, 0))] (zeros_ro bz rfl)
    rw [m1] at hLd
    have g4 := g3 (ps[t].load (k : Int) (n : Int) zeros).1
    generalize (ps[t].load (k : Int) (n : Int) zeros).1 = p' at hLd g4 m2 m3
    refine W.step tab_ok rfl rfl ?_
    refine W.iteF rfl (by rfl) (W.step tab_ok rfl rfl ?_)
    refine W.call rfl rfl rfl rfl (hPt) (by repeat (first | exact Sel.nil | (apply Sel.cons; (repeat (first | exact Pick.here | apply Pick.there))))) (by exact RoIn.own 1 rfl) (by exact Nat.le_of_ble_eq_true rfl) ?_
    rintro _ _ ⟨rfl, rfl⟩
    refine W.step tab_ok rfl rfl ?_
    repeat (first | (refine W.isGuard ?_; first | refine W.guardGo rfl rfl (by first | rfl | (simp []; done) | omega) (W.step tab_ok rfl rfl ?_) | refine W.guardSkip rfl rfl (by first | rfl | (simp []; done) | omega) (by exact Nat.le_of_ble_eq_true rfl) (W.step tab_ok rfl rfl ?_) | refine W.guardUndef rfl rfl (by exact Nat.le_of_ble_eq_true rfl) (W.step tab_ok rfl rfl ?_)) | (refine W.isPick ?_; first | refine W.val (OpVal.pickT rfl (by first | rfl | (simp []; done) | omega) rfl) (by exact Nat.le_of_ble_eq_true rfl) (W.step tab_ok rfl rfl ?_) | refine W.val (OpVal.pickF rfl (by first | rfl | (simp []; done) | omega) rfl) (by exact Nat.le_of_ble_eq_true rfl) (W.step tab_ok rfl rfl ?_)) | (refine W.isBin ?_; first | refine W.val (OpVal.neBool tab_ok rfl rfl rfl) (by exact Nat.le_of_ble_eq_true rfl) (W.step tab_ok rfl rfl ?_) | refine W.val (OpVal.eqBool tab_ok rfl rfl rfl) (by exact Nat.le_of_ble_eq_true rfl) (W.step tab_ok rfl rfl ?_) | refine W.val (OpVal.eqNil tab_ok rfl rfl rfl) (by exact Nat.le_of_ble_eq_true rfl) (W.step tab_ok rfl rfl ?_) | refine W.val (OpVal.neNil tab_ok rfl rfl rfl) (by exact Nat.le_of_ble_eq_true rfl) (W.step tab_ok rfl rfl ?_)))
    refine W.iteF rfl (by rfl) (W.step tab_ok rfl rfl ?_)
    refine W.nw (NewOf.mks (bytes := 1) (len := 32) (cap := 32) tab_ok rfl rfl rfl rfl rfl rfl rfl rfl rfl (Nat.le_refl _) (by decide) (by decide)) (by exact Nat.le_of_ble_eq_true rfl) ?_
    intro _
    refine W.step tab_ok rfl rfl ?_
    rw [rep_zeros]
    refine W.groupV [2] rfl ?_
    refine W.split3 rfl ?_
    refine W.step tab_ok rfl rfl ?_
    refine W.call rfl rfl rfl rfl (hLd _) (by repeat (first | exact Sel.nil | (apply Sel.cons; (repeat (first | exact Pick.here | apply Pick.there))))) (by repeat (first | exact RoIn.nil | exact RoIn.same | refine RoIn.cons (by first | exact at_own 0 rfl | exact at_own 1 rfl | exact at_own 2 rfl | exact at_own 3 rfl | exact at_own 4 rfl | exact at_own 5 rfl | exact at_own 6 rfl | exact at_own 7 rfl | exact at_own 8 rfl | exact at_own 9 rfl | exact at_own 10 rfl | exact at_own 11 rfl | exact at_ro 0 rfl | exact at_ro 1 rfl | exact at_ro 2 rfl | exact at_ro 3 rfl | exact at_ro 4 rfl | exact at_ro 5 rfl) ?_ | refine RoIn.append ?_ ?_ | exact RoIn.own 0 rfl | exact RoIn.own 1 rfl | exact RoIn.own 2 rfl | exact RoIn.own 3 rfl | exact RoIn.own 4 rfl | exact RoIn.own 5 rfl | exact RoIn.own 6 rfl | exact RoIn.own 7 rfl | exact RoIn.own 8 rfl | exact RoIn.own 9 rfl | exact RoIn.own 10 rfl | exact RoIn.own 11 rfl | (intro p hp; simp [hp]; done))) (by exact Nat.le_of_ble_eq_true rfl) ?_
    rintro _ _ ⟨rfl, Hi', rfl, hp'⟩
    refine W.step tab_ok rfl rfl ?_
    refine W.groupV [1, 0, 0] rfl ?_
    refine W.step tab_ok rfl rfl ?_
    refine W.iteF rfl (by rfl) (W.step tab_ok rfl rfl ?_)
    have hnl : n < (bools us).length := by simp [bools, hul]; omega
    have hub : (bools us)[0 + n * 1]? = some (.bool (us.getD n false)) := by
      rw [List.getD_eq_getElem?_getD]
      have : n < us.length := by omega
      simp [bools, this]
    refine W.val (OpVal.ixSl tab_ok rfl rfl rfl rfl rfl (show n < 20 by omega)) (by exact Nat.le_of_ble_eq_true rfl) (W.step tab_ok rfl rfl ?_)
    refine W.val (OpVal.load tab_ok rfl (at_own 2 rfl) hub) (by exact Nat.le_of_ble_eq_true rfl) (W.step tab_ok rfl rfl ?_)
    have hw : splice? (bools us) (0 + n * 1) [.bool true] = some (bools (us.set n true)) := by rw [splice1 hnl, bools_set]
    by_cases hun : us.getD n false = true
    · rw [if_pos hun] at m3
      refine W.iteF rfl (by rw [hun]; rfl) (W.step tab_ok rfl rfl ?_)
      refine W.val (OpVal.ixSl tab_ok rfl rfl rfl rfl rfl (show n < 20 by omega)) (by exact Nat.le_of_ble_eq_true rfl) (W.step tab_ok rfl rfl ?_)
      refine W.store tab_ok rfl (Upd.there (Upd.there Upd.here)) rfl rfl rfl rfl rfl hw (W.step tab_ok rfl rfl ?_)
      refine W.val (OpVal.add rfl rfl (i64_in _ (by omega))) (by exact Nat.le_of_ble_eq_true rfl) (W.step tab_ok rfl rfl ?_)
      refine W.rnd _ _ (by repeat (first | exact trivial | refine ⟨rfl, ?_⟩)) (by repeat (first | exact Sel.nil | (apply Sel.cons; (repeat (first | exact Pick.here | apply Pick.there))))) (⟨6 - (j + 1), by omega, j + 1, _, _, un, _, by omega, m2, hul2, by omega, by omega, by omega, (g4 _ hp').at, rfl, rfl, rfl⟩)
    · rw [if_neg hun] at m3
      have hun' : us.getD n false = false := by cases h : us.getD n false with | true => exact absurd h hun | false => rfl
      refine W.iteT rfl (by rw [hun']; rfl) (W.step tab_ok rfl rfl ?_)
      refine W.val (OpVal.add rfl rfl (i64_in _ (by omega))) (by exact Nat.le_of_ble_eq_true rfl) (W.step tab_ok rfl rfl ?_)
      refine W.val (OpVal.ixSl tab_ok rfl rfl rfl rfl rfl (show n < 20 by omega)) (by exact Nat.le_of_ble_eq_true rfl) (W.step tab_ok rfl rfl ?_)
      refine W.store tab_ok rfl (Upd.there (Upd.there Upd.here)) rfl rfl rfl rfl rfl hw (W.step tab_ok rfl rfl ?_)
      refine W.val (OpVal.add rfl rfl (i64_in _ (by omega))) (by exact Nat.le_of_ble_eq_true rfl) (W.step tab_ok rfl rfl ?_)
      refine W.rnd _ _ (by repeat (first | exact trivial | refine ⟨rfl, ?_⟩)) (by repeat (first | exact Sel.nil | (apply Sel.cons; (repeat (first | exact Pick.here | apply Pick.there))))) (⟨6 - (j + 1), by omega, j + 1, _, _, un + 1, _, by omega, m2, hul2, by omega, by omega, by omega, (g4 _ hp').at, rfl, rfl, rfl⟩)
  · have hx : ¬ ((j : Int) < (zs.length : Int)) ∨ ((j : Int) < (zs.length : Int) ∧ ¬ ((j : Int) < 6)) := by omega
    have hE := AEmpty_spec ps hok hl b H' ha'
    have hU := AUsed_spec ps hok hl b H' ha'
    have hC := AClear_spec ps hok hl b H' ha'
    have hok2 : ∀ p ∈ ps.map Pt.clear, p.Ok := fun p hpm => by
      obtain ⟨q, hq, rfl⟩ := List.mem_map.1 hpm
      exact (Pt.clear_inv (hinv q hq)).ok
    have hempty : (tot emptyN ps = 0) ↔ tot usedN ps = 0 := by
      rw [(tot_nonneg emptyN (fun p _ => (emptyN_ok p).1)).2, (tot_nonneg usedN (fun p hpm => (usedN_ok (hok p hpm)).1)).2]
      constructor
      · intro h p hpm; exact (empty_used (hinv p hpm)).1 (h p hpm)
      · intro h p hpm; exact (empty_used (hinv p hpm)).2 (h p hpm)
    have e1 : tot usedN (ps.map Pt.clear) = 0 := tot_zero _ (fun p hpm => by
      obtain ⟨q, _, rfl⟩ := List.mem_map.1 hpm
      simp [usedN, Pt.clear, Pt.new, Fr.zero])
    have e2 : tot emptyN (ps.map Pt.clear) = 0 := tot_zero _ (fun p hpm => by
      obtain ⟨q, _, rfl⟩ := List.mem_map.1 hpm
      simp [emptyN, Pt.clear, new_empty])
    have hE2 := fun H'' ha'' => AEmpty_spec (ps.map Pt.clear) hok2 (by simpa using hl) b H'' ha''
    have hU2 := fun H'' ha'' => AUsed_spec (ps.map Pt.clear) hok2 (by simpa using hl) b H'' ha''
    rw [e2] at hE2
    rw [e1] at hU2
    have hde : decide (tot emptyN ps = 0) = decide (tot usedN ps = 0) := by simp [hempty]
    rw [hde] at hE
    rw [← hun0] at hE hU hde
    rcases hx with hx | hx
    all_goals
      repeat (first | (refine W.isGuard ?_; first | refine W.guardGo rfl rfl (by first | rfl | (simp [hx]; done) | omega) (W.step tab_ok rfl rfl ?_) | refine W.guardSkip rfl rfl (by first | rfl | (simp [hx]; done) | omega) (by exact Nat.le_of_ble_eq_true rfl) (W.step tab_ok rfl rfl ?_) | refine W.guardUndef rfl rfl (by exact Nat.le_of_ble_eq_true rfl) (W.step tab_ok rfl rfl ?_)) | (refine W.isPick ?_; first | refine W.val (OpVal.pickT rfl (by first | rfl | (simp [hx]; done) | omega) rfl) (by exact Nat.le_of_ble_eq_true rfl) (W.step tab_ok rfl rfl ?_) | refine W.val (OpVal.pickF rfl (by first | rfl | (simp [hx]; done) | omega) rfl) (by exact Nat.le_of_ble_eq_true rfl) (W.step tab_ok rfl rfl ?_)) | (refine W.isBin ?_; first | refine W.val (OpVal.neBool tab_ok rfl rfl rfl) (by exact Nat.le_of_ble_eq_true rfl) (W.step tab_ok rfl rfl ?_) | refine W.val (OpVal.eqBool tab_ok rfl rfl rfl) (by exact Nat.le_of_ble_eq_true rfl) (W.step tab_ok rfl rfl ?_) | refine W.val (OpVal.eqNil tab_ok rfl rfl rfl) (by exact Nat.le_of_ble_eq_true rfl) (W.step tab_ok rfl rfl ?_) | refine W.val (OpVal.neNil tab_ok rfl rfl rfl) (by exact Nat.le_of_ble_eq_true rfl) (W.step tab_ok rfl rfl ?_)))
      refine W.iteF rfl (by first | (simp; omega) | (simp [hx]; done)) (W.step tab_ok rfl rfl ?_)
      refine W.call rfl rfl rfl rfl (hU) (by repeat (first | exact Sel.nil | (apply Sel.cons; (repeat (first | exact Pick.here | apply Pick.there))))) (by repeat (first | exact RoIn.nil | exact RoIn.same | refine RoIn.cons (by first | exact at_own 0 rfl | exact at_own 1 rfl | exact at_own 2 rfl | exact at_own 3 rfl | exact at_own 4 rfl | exact at_own 5 rfl | exact at_own 6 rfl | exact at_own 7 rfl | exact at_own 8 rfl | exact at_own 9 rfl | exact at_own 10 rfl | exact at_own 11 rfl | exact at_ro 0 rfl | exact at_ro 1 rfl | exact at_ro 2 rfl | exact at_ro 3 rfl | exact at_ro 4 rfl | exact at_ro 5 rfl) ?_ | refine RoIn.append ?_ ?_ | exact RoIn.own 0 rfl | exact RoIn.own 1 rfl | exact RoIn.own 2 rfl | exact RoIn.own 3 rfl | exact RoIn.own 4 rfl | exact RoIn.own 5 rfl | exact RoIn.own 6 rfl | exact RoIn.own 7 rfl | exact RoIn.own 8 rfl | exact RoIn.own 9 rfl | exact RoIn.own 10 rfl | exact RoIn.own 11 rfl | (intro p hp; simp [hp]; done))) (by exact Nat.le_of_ble_eq_true rfl) ?_
      rintro _ _ ⟨rfl, rfl⟩
      refine W.step tab_ok rfl rfl ?_
      repeat (first | (refine W.isGuard ?_; first | refine W.guardGo rfl rfl (by first | rfl | (simp []; done) | omega) (W.step tab_ok rfl rfl ?_) | refine W.guardSkip rfl rfl (by first | rfl | (simp []; done) | omega) (by exact Nat.le_of_ble_eq_true rfl) (W.step tab_ok rfl rfl ?_) | refine W.guardUndef rfl rfl (by exact Nat.le_of_ble_eq_true rfl) (W.step tab_ok rfl rfl ?_)) | (refine W.isPick ?_; first | refine W.val (OpVal.pickT rfl (by first | rfl | (simp []; done) | omega) rfl) (by exact Nat.le_of_ble_eq_true rfl) (W.step tab_ok rfl rfl ?_) | refine W.val (OpVal.pickF rfl (by first | rfl | (simp []; done) | omega) rfl) (by exact Nat.le_of_ble_eq_true rfl) (W.step tab_ok rfl rfl ?_)) | (refine W.isBin ?_; first | refine W.val (OpVal.neBool tab_ok rfl rfl rfl) (by exact Nat.le_of_ble_eq_true rfl) (W.step tab_ok rfl rfl ?_) | refine W.val (OpVal.eqBool tab_ok rfl rfl rfl) (by exact Nat.le_of_ble_eq_true rfl) (W.step tab_ok rfl rfl ?_) | refine W.val (OpVal.eqNil tab_ok rfl rfl rfl) (by exact Nat.le_of_ble_eq_true rfl) (W.step tab_ok rfl rfl ?_) | refine W.val (OpVal.neNil tab_ok rfl rfl rfl) (by exact Nat.le_of_ble_eq_true rfl) (W.step tab_ok rfl rfl ?_)))
      refine W.call rfl rfl rfl rfl (hE) (by repeat (first | exact Sel.nil | (apply Sel.cons; (repeat (first | exact Pick.here | apply Pick.there))))) (by repeat (first | exact RoIn.nil | exact RoIn.same | refine RoIn.cons (by first | exact at_own 0 rfl | exact at_own 1 rfl | exact at_own 2 rfl | exact at_own 3 rfl | exact at_own 4 rfl | exact at_own 5 rfl | exact at_own 6 rfl | exact at_own 7 rfl | exact at_own 8 rfl | exact at_own 9 rfl | exact at_own 10 rfl | exact at_own 11 rfl | exact at_ro 0 rfl | exact at_ro 1 rfl | exact at_ro 2 rfl | exact at_ro 3 rfl | exact at_ro 4 rfl | exact at_ro 5 rfl) ?_ | refine RoIn.append ?_ ?_ | exact RoIn.own 0 rfl | exact RoIn.own 1 rfl | exact RoIn.own 2 rfl | exact RoIn.own 3 rfl | exact RoIn.own 4 rfl | exact RoIn.own 5 rfl | exact RoIn.own 6 rfl | exact RoIn.own 7 rfl | exact RoIn.own 8 rfl | exact RoIn.own 9 rfl | exact RoIn.own 10 rfl | exact RoIn.own 11 rfl | (intro p hp; simp [hp]; done))) (by exact Nat.le_of_ble_eq_true rfl) ?_
      rintro _ _ ⟨rfl, rfl⟩
      refine W.step tab_ok rfl rfl ?_
      repeat (first | (refine W.isGuard ?_; first | refine W.guardGo rfl rfl (by first | rfl | (simp []; done) | omega) (W.step tab_ok rfl rfl ?_) | refine W.guardSkip rfl rfl (by first | rfl | (simp []; done) | omega) (by exact Nat.le_of_ble_eq_true rfl) (W.step tab_ok rfl rfl ?_) | refine W.guardUndef rfl rfl (by exact Nat.le_of_ble_eq_true rfl) (W.step tab_ok rfl rfl ?_)) | (refine W.isPick ?_; first | refine W.val (OpVal.pickT rfl (by first | rfl | (simp []; done) | omega) rfl) (by exact Nat.le_of_ble_eq_true rfl) (W.step tab_ok rfl rfl ?_) | refine W.val (OpVal.pickF rfl (by first | rfl | (simp []; done) | omega) rfl) (by exact Nat.le_of_ble_eq_true rfl) (W.step tab_ok rfl rfl ?_)) | (refine W.isBin ?_; first | refine W.val (OpVal.neBool tab_ok rfl rfl rfl) (by exact Nat.le_of_ble_eq_true rfl) (W.step tab_ok rfl rfl ?_) | refine W.val (OpVal.eqBool tab_ok rfl rfl rfl) (by exact Nat.le_of_ble_eq_true rfl) (W.step tab_ok rfl rfl ?_) | refine W.val (OpVal.eqNil tab_ok rfl rfl rfl) (by exact Nat.le_of_ble_eq_true rfl) (W.step tab_ok rfl rfl ?_) | refine W.val (OpVal.neNil tab_ok rfl rfl rfl) (by exact Nat.le_of_ble_eq_true rfl) (W.step tab_ok rfl rfl ?_)))
      refine W.iteF rfl (by first | rfl | (simp; done)) (W.step tab_ok rfl rfl ?_)
      refine W.call rfl rfl rfl rfl (hC) (by repeat (first | exact Sel.nil | (apply Sel.cons; (repeat (first | exact Pick.here | apply Pick.there))))) (by repeat (first | exact RoIn.nil | exact RoIn.same | refine RoIn.cons (by first | exact at_own 0 rfl | exact at_own 1 rfl | exact at_own 2 rfl | exact at_own 3 rfl | exact at_own 4 rfl | exact at_own 5 rfl | exact at_own 6 rfl | exact at_own 7 rfl | exact at_own 8 rfl | exact at_own 9 rfl | exact at_own 10 rfl | exact at_own 11 rfl | exact at_ro 0 rfl | exact at_ro 1 rfl | exact at_ro 2 rfl | exact at_ro 3 rfl | exact at_ro 4 rfl | exact at_ro 5 rfl) ?_ | refine RoIn.append ?_ ?_ | exact RoIn.own 0 rfl | exact RoIn.own 1 rfl | exact RoIn.own 2 rfl | exact RoIn.own 3 rfl | exact RoIn.own 4 rfl | exact RoIn.own 5 rfl | exact RoIn.own 6 rfl | exact RoIn.own 7 rfl | exact RoIn.own 8 rfl | exact RoIn.own 9 rfl | exact RoIn.own 10 rfl | exact RoIn.own 11 rfl | (intro p hp; simp [hp]; done))) (by exact Nat.le_of_ble_eq_true rfl) ?_
      rintro _ _ ⟨H2, rfl, ha2⟩
      refine W.step tab_ok rfl rfl ?_
      refine W.call rfl rfl rfl rfl (hU2 _ ha2) (by repeat (first | exact Sel.nil | (apply Sel.cons; (repeat (first | exact Pick.here | apply Pick.there))))) (by repeat (first | exact RoIn.nil | exact RoIn.same | refine RoIn.cons (by first | exact at_own 0 rfl | exact at_own 1 rfl | exact at_own 2 rfl | exact at_own 3 rfl | exact at_own 4 rfl | exact at_own 5 rfl | exact at_own 6 rfl | exact at_own 7 rfl | exact at_own 8 rfl | exact at_own 9 rfl | exact at_own 10 rfl | exact at_own 11 rfl | exact at_ro 0 rfl | exact at_ro 1 rfl | exact at_ro 2 rfl | exact at_ro 3 rfl | exact at_ro 4 rfl | exact at_ro 5 rfl) ?_ | refine RoIn.append ?_ ?_ | exact RoIn.own 0 rfl | exact RoIn.own 1 rfl | exact RoIn.own 2 rfl | exact RoIn.own 3 rfl | exact RoIn.own 4 rfl | exact RoIn.own 5 rfl | exact RoIn.own 6 rfl | exact RoIn.own 7 rfl | exact RoIn.own 8 rfl | exact RoIn.own 9 rfl | exact RoIn.own 10 rfl | exact RoIn.own 11 rfl | (intro p hp; simp [hp]; done))) (by exact Nat.le_of_ble_eq_true rfl) ?_
      rintro _ _ ⟨rfl, rfl⟩
      refine W.step tab_ok rfl rfl ?_
      repeat (first | (refine W.isGuard ?_; first | refine W.guardGo rfl rfl (by first | rfl | (simp []; done) | omega) (W.step tab_ok rfl rfl ?_) | refine W.guardSkip rfl rfl (by first | rfl | (simp []; done) | omega) (by exact Nat.le_of_ble_eq_true rfl) (W.step tab_ok rfl rfl ?_) | refine W.guardUndef rfl rfl (by exact Nat.le_of_ble_eq_true rfl) (W.step tab_ok rfl rfl ?_)) | (refine W.isPick ?_; first | refine W.val (OpVal.pickT rfl (by first | rfl | (simp []; done) | omega) rfl) (by exact Nat.le_of_ble_eq_true rfl) (W.step tab_ok rfl rfl ?_) | refine W.val (OpVal.pickF rfl (by first | rfl | (simp []; done) | omega) rfl) (by exact Nat.le_of_ble_eq_true rfl) (W.step tab_ok rfl rfl ?_)) | (refine W.isBin ?_; first | refine W.val (OpVal.neBool tab_ok rfl rfl rfl) (by exact Nat.le_of_ble_eq_true rfl) (W.step tab_ok rfl rfl ?_) | refine W.val (OpVal.eqBool tab_ok rfl rfl rfl) (by exact Nat.le_of_ble_eq_true rfl) (W.step tab_ok rfl rfl ?_) | refine W.val (OpVal.eqNil tab_ok rfl rfl rfl) (by exact Nat.le_of_ble_eq_true rfl) (W.step tab_ok rfl rfl ?_) | refine W.val (OpVal.neNil tab_ok rfl rfl rfl) (by exact Nat.le_of_ble_eq_true rfl) (W.step tab_ok rfl rfl ?_)))
      refine W.call rfl rfl rfl rfl (hE2 _ ha2) (by repeat (first | exact Sel.nil | (apply Sel.cons; (repeat (first | exact Pick.here | apply Pick.there))))) (by repeat (first | exact RoIn.nil | exact RoIn.same | refine RoIn.cons (by first | exact at_own 0 rfl | exact at_own 1 rfl | exact at_own 2 rfl | exact at_own 3 rfl | exact at_own 4 rfl | exact at_own 5 rfl | exact at_own 6 rfl | exact at_own 7 rfl | exact at_own 8 rfl | exact at_own 9 rfl | exact at_own 10 rfl | exact at_own 11 rfl | exact at_ro 0 rfl | exact at_ro 1 rfl | exact at_ro 2 rfl | exact at_ro 3 rfl | exact at_ro 4 rfl | exact at_ro 5 rfl) ?_ | refine RoIn.append ?_ ?_ | exact RoIn.own 0 rfl | exact RoIn.own 1 rfl | exact RoIn.own 2 rfl | exact RoIn.own 3 rfl | exact RoIn.own 4 rfl | exact RoIn.own 5 rfl | exact RoIn.own 6 rfl | exact RoIn.own 7 rfl | exact RoIn.own 8 rfl | exact RoIn.own 9 rfl | exact RoIn.own 10 rfl | exact RoIn.own 11 rfl | (intro p hp; simp [hp]; done))) (by exact Nat.le_of_ble_eq_true rfl) ?_
      rintro _ _ ⟨rfl, rfl⟩
      refine W.step tab_ok rfl rfl ?_
      repeat (first | (refine W.isGuard ?_; first | refine W.guardGo rfl rfl (by first | rfl | (simp []; done) | omega) (W.step tab_ok rfl rfl ?_) | refine W.guardSkip rfl rfl (by first | rfl | (simp []; done) | omega) (by exact Nat.le_of_ble_eq_true rfl) (W.step tab_ok rfl rfl ?_) | refine W.guardUndef rfl rfl (by exact Nat.le_of_ble_eq_true rfl) (W.step tab_ok rfl rfl ?_)) | (refine W.isPick ?_; first | refine W.val (OpVal.pickT rfl (by first | rfl | (simp []; done) | omega) rfl) (by exact Nat.le_of_ble_eq_true rfl) (W.step tab_ok rfl rfl ?_) | refine W.val (OpVal.pickF rfl (by first | rfl | (simp []; done) | omega) rfl) (by exact Nat.le_of_ble_eq_true rfl) (W.step tab_ok rfl rfl ?_)) | (refine W.isBin ?_; first | refine W.val (OpVal.neBool tab_ok rfl rfl rfl) (by exact Nat.le_of_ble_eq_true rfl) (W.step tab_ok rfl rfl ?_) | refine W.val (OpVal.eqBool tab_ok rfl rfl rfl) (by exact Nat.le_of_ble_eq_true rfl) (W.step tab_ok rfl rfl ?_) | refine W.val (OpVal.eqNil tab_ok rfl rfl rfl) (by exact Nat.le_of_ble_eq_true rfl) (W.step tab_ok rfl rfl ?_) | refine W.val (OpVal.neNil tab_ok rfl rfl rfl) (by exact Nat.le_of_ble_eq_true rfl) (W.step tab_ok rfl rfl ?_)))
      refine W.call rfl rfl rfl rfl (lives_spec) (by repeat (first | exact Sel.nil | (apply Sel.cons; (repeat (first | exact Pick.here | apply Pick.there))))) (by repeat (first | exact RoIn.nil | exact RoIn.same | refine RoIn.cons (by first | exact at_own 0 rfl | exact at_own 1 rfl | exact at_own 2 rfl | exact at_own 3 rfl | exact at_own 4 rfl | exact at_own 5 rfl | exact at_own 6 rfl | exact at_own 7 rfl | exact at_own 8 rfl | exact at_own 9 rfl | exact at_own 10 rfl | exact at_own 11 rfl | exact at_ro 0 rfl | exact at_ro 1 rfl | exact at_ro 2 rfl | exact at_ro 3 rfl | exact at_ro 4 rfl | exact at_ro 5 rfl) ?_ | refine RoIn.append ?_ ?_ | exact RoIn.own 0 rfl | exact RoIn.own 1 rfl | exact RoIn.own 2 rfl | exact RoIn.own 3 rfl | exact RoIn.own 4 rfl | exact RoIn.own 5 rfl | exact RoIn.own 6 rfl | exact RoIn.own 7 rfl | exact RoIn.own 8 rfl | exact RoIn.own 9 rfl | exact RoIn.own 10 rfl | exact RoIn.own 11 rfl | (intro p hp; simp [hp]; done))) (by exact Nat.le_of_ble_eq_true rfl) ?_
      rintro _ _ ⟨rfl, rfl⟩
      refine W.step tab_ok rfl rfl ?_
      repeat (first | (refine W.isGuard ?_; first | refine W.guardGo rfl rfl (by first | rfl | (simp []; done) | omega) (W.step tab_ok rfl rfl ?_) | refine W.guardSkip rfl rfl (by first | rfl | (simp []; done) | omega) (by exact Nat.le_of_ble_eq_true rfl) (W.step tab_ok rfl rfl ?_) | refine W.guardUndef rfl rfl (by exact Nat.le_of_ble_eq_true rfl) (W.step tab_ok rfl rfl ?_)) | (refine W.isPick ?_; first | refine W.val (OpVal.pickT rfl (by first | rfl | (simp []; done) | omega) rfl) (by exact Nat.le_of_ble_eq_true rfl) (W.step tab_ok rfl rfl ?_) | refine W.val (OpVal.pickF rfl (by first | rfl | (simp []; done) | omega) rfl) (by exact Nat.le_of_ble_eq_true rfl) (W.step tab_ok rfl rfl ?_)) | (refine W.isBin ?_; first | refine W.val (OpVal.neBool tab_ok rfl rfl rfl) (by exact Nat.le_of_ble_eq_true rfl) (W.step tab_ok rfl rfl ?_) | refine W.val (OpVal.eqBool tab_ok rfl rfl rfl) (by exact Nat.le_of_ble_eq_true rfl) (W.step tab_ok rfl rfl ?_) | refine W.val (OpVal.eqNil tab_ok rfl rfl rfl) (by exact Nat.le_of_ble_eq_true rfl) (W.step tab_ok rfl rfl ?_) | refine W.val (OpVal.neNil tab_ok rfl rfl rfl) (by exact Nat.le_of_ble_eq_true rfl) (W.step tab_ok rfl rfl ?_)))
      refine W.ret (fin _ _ (FinOk.mk' ([]) (.tmp rfl .nil) (by repeat (first | exact Sel.nil | (apply Sel.cons; (repeat (first | exact Pick.here | apply Pick.there))))) rfl ?_))
      exact ⟨rfl, rfl⟩
end Go.Proofs.Ytdhjmeoppmpilaa
