/-
  The device of the program: Turn, SetHead, New.
-/
import Derived.Test.YtpimbaphenignaaVh
namespace Go.Proofs.Ytpimbaphenignaa
open Go Go.Sl Go.IntWalk
set_option maxHeartbeats 8000000
set_option maxRecDepth 20000
set_option linter.unusedVariables false
def flipB (c : List Int) (p : Int) (by_ : Nat) : List Int := c.set p.toNat (((c.getD p.toNat 0).toNat ^^^ by_ : Nat) : Int)
theorem flipB_len (c : List Int) (p : Int) (by_ : Nat) : (flipB c p by_).length = c.length := by simp [flipB]
theorem flipB_ok {c : List Int} (h : u8ok c) (p : Int) {by_ : Nat} (hb : by_ < 256) : u8ok (flipB c p by_) := fun x hx => by
  unfold flipB at hx
  rcases List.mem_or_eq_of_mem_set hx with h1 | rfl
  · exact h x h1
  · have : (c.getD p.toNat 0).toNat < 256 := by
      rw [List.getD_eq_getElem?_getD]
      cases hg : c[p.toNat]? with
      | none => decide
      | some y =>
        have := h y (List.mem_of_getElem? hg)
        simp only [Option.getD_some]
        omega
    have := Nat.xor_lt_two_pow (n := 8) this hb
    omega
theorem u8s_set (c : List Int) (j : Nat) (x : Int) : (u8s c).set j (.int .u8 x) = u8s (c.set j x) := by rw [u8s_map, u8s_map, List.map_set]
theorem splice_set {l : List Value} {j : Nat} (h : j < l.length) (v : Value) : splice? l (0 + j * 1) [v] = some (l.set j v) := by
  rw [splice?_of _ _ _ (by simp; omega)]
  congr 1
  rw [Nat.mul_one, Nat.zero_add, List.set_eq_take_append_cons_drop, if_pos h]
  simp
def Dv.turn (d : Dv) (i place : Int) (by_ : Nat) : Dv × Int := if d.in_ i ∧ 0 ≤ place ∧ place < 20 then (d.setLast i (flipB (d.last i) place by_), 0) else (d, 4)
theorem DTurn_spec (d : Dv) (hd : d.Ok) (b : Nat) (H : HL) (h : DevAt d b H) (i place : Int) (by_ : Nat) (hby : by_ < 256) :
    Ctr Try.prog 24 [.pointer (some ⟨b, 0, none⟩), .int .i64 i, .int .i64 place, .int .u8 (by_ : Int)] [H] [] (fun v L' => ∃ H', v = .int .i64 (d.turn i place by_).2 ∧ L' = [H'] ∧ DevAt (d.turn i place by_).1 b H') := by
  have hin := Din_spec d b H h i
  unfold Dv.turn
  by_cases hi : d.in_ i
  · have hL := Dlasting_spec d hd b H h i hi
    obtain ⟨h20, hu⟩ := hd.last hi
    have hC := fun a cap r hr => BClone_spec (d.last i) (by omega) a cap r hr
    rw [h20] at hC
    by_cases h0 : place < 0
    · rw [if_neg (by omega)]
      refine Ctr.enter (n := 43) [.tmp 8] [(0, _), (1, _), (2, _), (3, _)] Try.func24 rfl rfl rfl (lb rfl) Try.call24 ⟨rfl, rfl, rfl, rfl, trivial⟩ ?_
      intro cx fin fin0
      refine aG ?_
      repeat (first | refine gx ?_ | refine gN fun _ => ?_ | refine gB fun _ => ?_ | fail)
      refine aC (o := hin) (h := ?_) (hro := RoIn.own 0 rfl)
      rintro _ _ ⟨rfl, rfl⟩
      refine aG ?_
      repeat (first | refine gh (gc2 hi h0) ?_ | refine gN fun _ => ?_ | refine gB fun _ => ?_ | fail)
      refine W.ret (fin _ _ (FinOk.first 1 (.tmp rfl .nil) rfl ?_))
      exact ⟨_, rfl, rfl, h⟩
    · by_cases h1 : place ≥ 20
      · rw [if_neg (by omega)]
        refine Ctr.enter (n := 43) [.tmp 8] [(0, _), (1, _), (2, _), (3, _)] Try.func24 rfl rfl rfl (lb rfl) Try.call24 ⟨rfl, rfl, rfl, rfl, trivial⟩ ?_
        intro cx fin fin0
        refine aG ?_
        repeat (first | refine gx ?_ | refine gN fun _ => ?_ | refine gB fun _ => ?_ | fail)
        refine aC (o := hin) (h := ?_) (hro := RoIn.own 0 rfl)
        rintro _ _ ⟨rfl, rfl⟩
        refine aG ?_
        repeat (first | refine gh (gc2 hi h0) ?_ | refine gN fun _ => ?_ | refine gB fun _ => ?_ | fail)
        refine aC (o := hL) (h := ?_) (hro := RoIn.own 0 rfl)
        rintro _ _ ⟨a, cap, H', r, rfl, rfl, hcap, hr, hsub⟩
        refine aG ?_
        have h1' : place ≥ ((20 : Nat) : Int) := h1
        repeat (first | refine gh (gc3 hi h0 h1') ?_ | refine gN fun _ => ?_ | refine gB fun _ => ?_ | fail)
        refine W.order [1] rfl ?_
        refine W.ret (fin _ _ (FinOk.first 1 (.tmp rfl .nil) rfl ?_))
        exact ⟨_, rfl, rfl, h⟩
      · rw [if_pos ⟨hi, by omega, by omega⟩]
        have h1' : ¬ place ≥ ((20 : Nat) : Int) := by omega
        obtain ⟨pl, rfl⟩ : ∃ pl : Nat, place = (pl : Int) := ⟨place.toNat, by omega⟩
        have hpl : pl < (d.last i).length := by omega
        have hfl : flipB (d.last i) (pl : Int) by_ = (d.last i).set pl ((((d.last i)[pl]).toNat ^^^ by_ : Nat) : Int) := by
          unfold flipB
          rw [Int.toNat_natCast, List.getD_eq_getElem?_getD, List.getElem?_eq_getElem hpl, Option.getD_some]
        have hcx := hu _ (List.getElem_mem hpl)
        obtain ⟨x, hx⟩ : ∃ x : Nat, (d.last i)[pl] = (x : Int) := ⟨(d.last i)[pl].toNat, by omega⟩
        rw [hx] at hcx
        rw [hx, Int.toNat_natCast] at hfl
        have hxb : x ^^^ by_ < 256 := Nat.xor_lt_two_pow (n := 8) (by omega) hby
        have hfo := flipB_ok hu (pl : Int) hby
        have hf20 : (flipB (d.last i) (pl : Int) by_).length = 20 := by rw [flipB_len, h20]
        refine Ctr.enter (n := 43) [.tmp 8] [(0, _), (1, _), (2, _), (3, _)] Try.func24 rfl rfl rfl (lb rfl) Try.call24 ⟨rfl, rfl, rfl, rfl, trivial⟩ ?_
        intro cx fin fin0
        refine aG ?_
        repeat (first | refine gx ?_ | refine gN fun _ => ?_ | refine gB fun _ => ?_ | fail)
        refine aC (o := hin) (h := ?_) (hro := RoIn.own 0 rfl)
        rintro _ _ ⟨rfl, rfl⟩
        refine aG ?_
        repeat (first | refine gh (gc2 hi h0) ?_ | refine gN fun _ => ?_ | refine gB fun _ => ?_ | fail)
        refine aC (o := hL) (h := ?_) (hro := RoIn.own 0 rfl)
        rintro _ _ ⟨a, cap, H', r, rfl, rfl, hcap, hr, hsub⟩
        refine aG ?_
        repeat (first | refine gh (gc3 hi h0 h1') ?_ | refine gN fun _ => ?_ | refine gB fun _ => ?_ | fail)
        refine aC (o := hL) (h := ?_) (hro := RoIn.own 1 rfl)
        rintro _ _ ⟨a2, cap2, H2, r2, rfl, rfl, hcap2, hr2, hsub2⟩
        refine aG ?_
        refine aC (o := hC a2 cap2 r2 hr2) (h := ?_) (hro := (fun q hq => (List.mem_append.1 (hsub2 q hq)).elim (fun h => .inl (by simp [h])) (fun h => .inl (by simp [h]))))
        rintro _ _ ⟨a3, c3, H3, rfl, rfl, ho⟩
        refine aG ?_
        obtain ⟨b5, lx, rfl, rfl, hc, hlen, ht⟩ := ho.some (by decide)
        rw [Nat.mul_one] at hlen ht
        have hplx : pl < lx.length := by omega
        have l0 : lx[0 + pl * 1]? = some (.int .u8 (x : Int)) := by
          have e := congrArg (·[pl]?) ht
          simp only [List.getElem?_take, if_pos (show pl < 20 by omega), u8s_map, List.getElem?_map, List.getElem?_eq_getElem hpl, Option.map_some, hx] at e
          rw [Nat.mul_one, Nat.zero_add]
          exact e
        have ht2 : (lx.set pl (.int .u8 ((x ^^^ by_ : Nat) : Int))).take 20 = u8s (flipB (d.last i) (pl : Int) by_) := by
          rw [List.take_set, ht, u8s_set, hfl]
        repeat (first | refine gx ?_ | refine gN fun _ => ?_ | refine gB fun _ => ?_ | fail)
        refine aV (OpVal.ixI tab_ok rfl rfl rfl rfl rfl (show pl < 20 by omega)) ?_
        refine aV (OpVal.load tab_ok rfl (at_own 0 rfl) l0) ?_
        refine aV (OpVal.bitsN (a := x) (b := by_) (r := x ^^^ by_) rfl rfl rfl rfl (show x < 256 by omega) hby (u8n hxb).symm (.inl ⟨rfl, rfl⟩)) ?_
        refine aV (OpVal.ixI tab_ok rfl rfl rfl rfl rfl (show pl < 20 by omega)) ?_
        refine W.store tab_ok rfl Upd.here rfl rfl rfl rfl rfl (splice_set hplx _) (aG ?_)
        refine W.order [0, 2] rfl ?_
        obtain ⟨bl, bt, ah, ch, tl, tt, Hl, Ht, D, rfl, hml, hmt, hr, hh⟩ := h
        refine W.order [1, 0] rfl ?_
        refine W.split4 rfl ?_
        refine aG ?_
        repeat (first | refine gx ?_ | refine gN fun _ => ?_ | refine gB fun _ => ?_ | fail)
        have hv : Cl.v ⟨some ⟨b5, 0, none⟩, c3, flipB (d.last i) (pl : Int) by_⟩ = .slice (some ⟨b5, 0, none⟩) 20 c3 := by unfold Cl.v; rw [hf20]
        refine aSkp (mapPut (f := Cl.v) (v := ⟨some ⟨b5, 0, none⟩, c3, flipB (d.last i) (pl : Int) by_⟩) Try.underlying61 Try.underlying3 rfl rfl (by exact (congrArg some hv).symm) (by intro p hp; simp [hp]) hml) ?_
        rintro _ ⟨Hm, rfl, hm'⟩
        refine aG ?_
        repeat (first | refine gx ?_ | refine gN fun _ => ?_ | refine gB fun _ => ?_ | fail)
        refine W.groupV [1, 0, 0, 1, 0] rfl ?_
        refine W.ret (fin _ _ (FinOk.first 1 (.tmp rfl .nil) rfl ?_))
        have hn2 : (d.setLast i (flipB (d.last i) (pl : Int) by_)).lasts.length = d.lasts.length := by simp [Dv.setLast]
        refine ⟨_, rfl, rfl, bl, bt, ah, ch, _, tt, Hm, Ht, [(b5, _)] ++ D, by rw [hn2]; rfl, hm', hmt, (hr.mono fun q hq => List.mem_append_right _ hq).putl (c := ⟨some ⟨b5, 0, none⟩, c3, flipB (d.last i) (pl : Int) by_⟩) hi ?_, hh.mono fun q hq => List.mem_append_right _ hq⟩
        refine ⟨by show (flipB (d.last i) (pl : Int) by_).length ≤ c3; omega, _, ?_, fun q hq => List.mem_append_left _ hq⟩
        show RoSl 1 (u8s (flipB (d.last i) (pl : Int) by_)) _ (flipB (d.last i) (pl : Int) by_).length _
        rw [hf20]
        exact ⟨by rw [u8s_len, hf20], .inr ⟨b5, 0, _, _, _, rfl, rfl, by rw [List.length_set]; omega, by rw [List.drop_zero, Nat.mul_one]; exact ht2⟩⟩
  · rw [if_neg (fun h => hi h.1)]
    refine Ctr.enter (n := 43) [.tmp 8] [(0, _), (1, _), (2, _), (3, _)] Try.func24 rfl rfl rfl (lb rfl) Try.call24 ⟨rfl, rfl, rfl, rfl, trivial⟩ ?_
    intro cx fin fin0
    refine aG ?_
    repeat (first | refine gx ?_ | refine gN fun _ => ?_ | refine gB fun _ => ?_ | fail)
    refine aC (o := hin) (h := ?_) (hro := RoIn.own 0 rfl)
    rintro _ _ ⟨rfl, rfl⟩
    refine aG ?_
    repeat (first | refine gh hi ?_ | refine gN fun _ => ?_ | refine gB fun _ => ?_ | fail)
    refine W.ret (fin _ _ (FinOk.first 1 (.tmp rfl .nil) rfl ?_))
    exact ⟨_, rfl, rfl, h⟩
theorem DSetHead_spec (d : Dv) (hd : d.Ok) (b : Nat) (H : HL) (h : DevAt d b H) (bs : List Int) (hl : bs.length ≤ 100000) (a : Option Addr) (cap : Nat) (rb : HL) (hrb : RoSl 1 (u8s bs) a bs.length rb) :
    Ctr Try.prog 23 [.pointer (some ⟨b, 0, none⟩), .slice a bs.length cap] [H] rb (fun _ L' => ∃ H', L' = [H'] ∧ DevAt ⟨d.lasts, d.later, bs⟩ b H') := by
  have hC := BClone_spec bs (by omega) a cap rb hrb
  obtain ⟨bl, bt, ah, ch, tl, tt, Hl, Ht, D, rfl, hml, hmt, hr, hh⟩ := h
  refine Ctr.enter (n := 9) [] [(0, _), (1, _)] Try.func23 rfl rfl rfl (lb rfl) Try.call23 ⟨rfl, rfl, trivial⟩ ?_
  intro cx fin fin0
  refine aG ?_
  refine aC (o := hC) (h := ?_)
  rintro _ _ ⟨a2, c2, H2, rfl, rfl, ho⟩
  refine aG ?_
  refine W.order [1, 0] rfl ?_
  refine W.split4 rfl ?_
  refine aG ?_
  repeat (first | refine gx ?_ | refine gN fun _ => ?_ | refine gB fun _ => ?_ | fail)
  refine W.groupV [0, 0, 0, 1, 0] rfl ?_
  refine fin0 _ _ (FinOk.first 1 .nil rfl ?_)
  refine ⟨_, rfl, bl, bt, a2, c2, tl, tt, Hl, Ht, H2 ++ D, rfl, hml, hmt, ⟨hr.lasts, hr.later, hr.keys, hr.nd, hr.ndl, fun i c hc => (hr.inl i c hc).mono fun q hq => List.mem_append_right _ hq, fun i c hc => (hr.int i c hc).mono fun q hq => List.mem_append_right _ hq⟩, ?_, H2, Own.roSl ho, fun q hq => List.mem_append_left _ hq⟩
  show bs.length ≤ c2
  rcases ho.2 with ⟨_, h0, _⟩ | ⟨_, _, _, _, h0, _⟩ <;> omega
def Dv.new (n : Nat) : Dv := ⟨List.replicate n zcell, List.replicate n [], []⟩
theorem Dv.new_ok {n : Nat} (h1 : 1 ≤ n) (h2 : n ≤ 1024) : (Dv.new n).Ok :=
  ⟨by simp [Dv.new], by simpa [Dv.new] using ⟨h1, h2⟩, fun c hc => by rw [List.eq_of_mem_replicate hc]; exact ⟨zcell_len, zcell_ok⟩, fun c hc => .inl (List.eq_of_mem_replicate hc), (by intro b hb; cases hb), by show ([] : List Int).length ≤ 100000; decide⟩
theorem DNew_spec (n : Int) : Ctr Try.prog 9 [.int .i64 n] [] [] (fun v L' => (¬ (1 ≤ n ∧ n ≤ 1024) ∧ v = .tuple #[.pointer none, .int .i64 1] ∧ L' = []) ∨
    ((1 ≤ n ∧ n ≤ 1024) ∧ ∃ b H, v = .tuple #[.pointer (some ⟨b, 0, none⟩), .int .i64 0] ∧ L' = [H] ∧ DevAt (Dv.new n.toNat) b H)) := by
  by_cases h1 : n < 1
  · refine Ctr.enter (n := 15) [.tmp 2, .tmp 3] [(0, _)] Try.func9 rfl rfl rfl (lb rfl) Try.call9 ⟨rfl, trivial⟩ ?_
    intro cx fin fin0
    refine aG ?_
    repeat (first | refine gh h1 ?_ | refine gN fun _ => ?_ | refine gB fun _ => ?_ | fail)
    refine W.ret (fin _ _ (FinOk.first 0 (.tmp rfl (.tmp rfl .nil)) rfl ?_))
    exact .inl ⟨by omega, rfl, rfl⟩
  · by_cases h2 : n > 1024
    · refine Ctr.enter (n := 15) [.tmp 2, .tmp 3] [(0, _)] Try.func9 rfl rfl rfl (lb rfl) Try.call9 ⟨rfl, trivial⟩ ?_
      intro cx fin fin0
      refine aG ?_
      repeat (first | refine gh (gc2 h1 h2) ?_ | refine gN fun _ => ?_ | refine gB fun _ => ?_ | fail)
      refine W.ret (fin _ _ (FinOk.first 0 (.tmp rfl (.tmp rfl .nil)) rfl ?_))
      exact .inl ⟨by omega, rfl, rfl⟩
    · obtain ⟨k, rfl⟩ : ∃ k : Nat, n = (k : Int) := ⟨n.toNat, by omega⟩
      refine Ctr.enter (n := 15) [.tmp 2, .tmp 3] [(0, _)] Try.func9 rfl rfl rfl (lb rfl) Try.call9 ⟨rfl, trivial⟩ ?_
      intro cx fin fin0
      refine aG ?_
      repeat (first | refine gh (gc2 h1 h2) ?_ | refine gN fun _ => ?_ | refine gB fun _ => ?_ | fail)
      refine aW (NewOf.map) ?_
      intro _
      refine aG ?_
      rename_i bl
      refine aW (NewOf.map) ?_
      intro _
      refine aG ?_
      rename_i bt
      refine aBu (ps := [_, _, _]) ?_
      repeat (first | refine gx ?_ | refine gN fun _ => ?_ | refine gB fun _ => ?_ | fail)
      rename_i b
      refine W.groupV [0, 1, 0] rfl ?_
      refine W.nilChunk ?_
      refine W.groupV [1, 0] rfl ?_
      refine W.ret (fin _ _ (FinOk.first 1 (.tmp rfl (.tmp rfl .nil)) rfl ?_))
      refine .inr ⟨⟨by omega, by omega⟩, b, _, rfl, rfl, bl, bt, none, 0, [], [], [(bl, .map #[] 0)], [(bt, .map #[] 0)], [], ?_, ⟨#[], 0, rfl, rfl⟩, ⟨#[], 0, rfl, rfl, (by intro x hx; simp at hx), by simp⟩, ⟨fun i hi => ?_, fun i hi => ?_, (by intro i c hc; cases hc), by simp, by simp, (by intro i c hc; cases hc), (by intro i c hc; cases hc)⟩, Nat.le_refl _, [], ⟨rfl, .inl ⟨rfl, rfl⟩⟩, (by intro q hq; cases hq)⟩
      · simp [Dv.new]
      · unfold Dv.in_ Dv.new at hi
        simp at hi
        unfold Dv.last Dv.new
        simp only [Int.toNat_natCast]
        rw [List.getD_eq_getElem?_getD, List.getElem?_replicate, if_pos (by omega)]
        rfl
      · unfold Dv.in_ Dv.new at hi
        simp at hi
        unfold Dv.late Dv.new
        simp only [Int.toNat_natCast]
        rw [List.getD_eq_getElem?_getD, List.getElem?_replicate, if_pos (by omega)]
        rfl
end Go.Proofs.Ytpimbaphenignaa
