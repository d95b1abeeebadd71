/-
  What is done, as it came in: the document's O, and its bytes, its kind, its frame.
-/
import Derived.Test.YtdhjmeoppmpilaaPk
import Derived.Test.YtdhjmeoppmpilaaOp
namespace Go.Proofs.Ytdhjmeoppmpilaa
open Go Go.Sl Go.IntWalk
set_option maxHeartbeats 4000000
set_option maxRecDepth 20000
structure OD where
  d : Int
  i : Int
  page : Int
  off : Int
  n : Int
  b : SlD Int
def OD.l (o : OD) : List Value := [.int .i64 o.d, .int .i64 o.i, .int .i64 o.page, .int .i64 o.off, .int .i64 o.n, .slice o.b.a o.b.xs.length o.b.cap]
structure OD.Ok (o : OD) : Prop where
  d : i64s o.d
  i : i64s o.i
  page : i64s o.page
  off : i64s o.off
  n : i64s o.n
  ro : RoSl 1 (u8s o.b.xs) o.b.a o.b.xs.length o.b.ro
  u8 : u8ok o.b.xs
  cap : o.b.xs.length ≤ o.b.cap
def OD.of (q : Int × Int × Int × Int × Int × SlD Int × Unit) : OD := ⟨q.1, q.2.1, q.2.2.1, q.2.2.2.1, q.2.2.2.2.1, q.2.2.2.2.2.1⟩
def ros (os : List OD) : HL := os.flatMap (·.b.ro)
section
variable {H : Type} {enc : TypeId × Value → H} {w : World} {spare : Nat → Bool} {held : Bool}
theorem opens_O : ∃ f Ok, Opens enc Try.prog w spare held 63 6 f Ok ∧ ∀ q, f q = (OD.of q).l ∧ (Ok q → (OD.of q).Ok ∧ ∀ p ∈ (OD.of q).b.ro, w.heap[p.1]? = some p.2) := by
  have hi : Opens enc Try.prog w spare held 3 1 (fun i => [Value.int .i64 i]) i64s := Opens.int Try.underlying3 (by kernel_rfl) (fun _ h => wf_i64 h)
  have hb : Opens enc Try.prog w spare held 5 1 (fun i => [Value.int .u8 i]) (fun x => 0 ≤ x ∧ x < 256) := Opens.int Try.underlying5 (by kernel_rfl) (fun _ h => wf_u8 h)
  refine ⟨_, _, Opens.st (OpenF.cons hi (OpenF.cons hi (OpenF.cons hi (OpenF.cons hi (OpenF.cons hi (OpenF.cons (Opens.sl hb (by decide) Try.underlying54 (by kernel_rfl)) OpenF.nil)))))) Try.underlying63 (by kernel_rfl) (by kernel_rfl) ?_, fun q => ⟨rfl, ?_⟩⟩
  · intro q hq
    have h1 : Try.prog.cellsOf 3 = 1 := by kernel_rfl
    have h2 : Try.prog.cellsOf 54 = 1 := by kernel_rfl
    simp only [List.mem_cons, List.not_mem_nil, or_false] at hq
    rcases hq with rfl | rfl | rfl | rfl | rfl | rfl <;> first | exact h1 | exact h2
  · rintro ⟨h1, h2, h3, h4, h5, h6, _⟩
    exact ⟨⟨h1, h2, h3, h4, h5, h6.ro, h6.all, h6.cap⟩, h6.mem⟩
theorem open_Os {t : Nat} (ht : Try.prog.underlying t = some (.slice 63)) (hct : Try.prog.cellsOf t = 1) {r : Reach} {b0 : Nat} {v : Value} {d : DataW H} {ps : List MemPlace} (hok : Value.okWide Try.prog w r b0 t v) (h : DataW.Trod enc Try.prog w 0 spare held t v d ps) :
    ∃ (os : List OD) (a : Option Addr) (cap : Nat) (ro : HL), v = .slice a os.length cap ∧ RoSl 6 (os.flatMap OD.l) a os.length ro ∧ (∀ p ∈ ro ++ ros os, w.heap[p.1]? = some p.2) ∧ (∀ o ∈ os, OD.Ok o) := by
  obtain ⟨f, Ok, hop, hq⟩ := opens_O (enc := enc) (w := w) (spare := spare) (held := held)
  obtain ⟨s, rfl, hs⟩ := Opens.argSl hop (by decide) ht hct hok h
  refine ⟨s.xs.map OD.of, s.a, s.cap, s.ro, by rw [List.length_map], ?_, fun p hp => ?_, fun o ho => ?_⟩
  · have e : (s.xs.map OD.of).flatMap OD.l = s.xs.flatMap f := by
      rw [List.flatMap_map]
      congr 1
      funext x
      exact ((hq x).1).symm
    rw [e, List.length_map]
    exact hs.ro
  · rcases List.mem_append.1 hp with hp | hp
    · exact hs.mem p hp
    · obtain ⟨o, ho, hpo⟩ := List.mem_flatMap.1 hp
      obtain ⟨x, hx, rfl⟩ := List.mem_map.1 ho
      exact ((hq x).2 (hs.all x hx)).2 p hpo
  · obtain ⟨x, hx, rfl⟩ := List.mem_map.1 ho
    exact ((hq x).2 (hs.all x hx)).1
end
def OD.bytes (o : OD) : List Int := if o.n.tmod 9 = 8 then o.b.xs.take 40 else fill o.b.xs 32
theorem OD.bytes_ok {o : OD} (h : o.Ok) : u8ok o.bytes := by
  unfold OD.bytes
  split
  · exact fun x hx => h.u8 x (List.mem_of_mem_take hx)
  · exact fill_ok h.u8 32
theorem OD.bytes_len (o : OD) : o.bytes.length ≤ 40 := by
  unfold OD.bytes
  split
  · simp; omega
  · rw [fill_len]; decide
theorem Bytes_spec (o : OD) (ho : o.Ok) : Ctr Try.prog 41 [.agg o.l.toArray] [] o.b.ro (fun v L' => ∃ a cap H, v = .slice a o.bytes.length cap ∧ L' = [H] ∧ Own 1 5 (u8s o.bytes) a o.bytes.length cap H) := by
  have hF := Few_spec o.b.xs o.b.a o.b.cap ho.cap o.b.ro ho.ro 40 (by decide) (by decide)
  have hL := Fill_spec o.b.xs o.b.a o.b.cap o.b.ro ho.ro 32 (by decide) (by decide)
  refine Ctr.enter (n := 13) [.tmp 2] [(0, _)] Try.func41 rfl rfl rfl (Nat.le_of_ble_eq_true rfl) Try.call41 ⟨rfl, trivial⟩ ?_
  intro cx fin fin0
  refine W.step tab_ok rfl rfl ?_
  repeat (first | (refine W.isLoad ?_; refine W.val (OpVal.load tab_ok rfl (by first | exact at_own 0 rfl | exact at_own 1 rfl | exact at_own 2 rfl | exact at_own 3 rfl | exact at_own 4 rfl | exact at_own 5 rfl | exact at_own 6 rfl | exact at_own 7 rfl | exact at_own 8 rfl | exact at_own 9 rfl | exact at_own 10 rfl | exact at_own 11 rfl | exact at_ro 0 rfl | exact at_ro 1 rfl | exact at_ro 2 rfl | exact at_ro 3 rfl) (by rfl)) (by exact Nat.le_of_ble_eq_true rfl) ?_; refine W.step tab_ok rfl rfl ?_) | (refine W.isStore ?_; refine W.store tab_ok rfl (by first | exact Upd.here | exact (Upd.there Upd.here) | exact (Upd.there (Upd.there Upd.here)) | exact (Upd.there (Upd.there (Upd.there Upd.here))) | exact (Upd.there (Upd.there (Upd.there (Upd.there Upd.here)))) | exact (Upd.there (Upd.there (Upd.there (Upd.there (Upd.there Upd.here))))) | exact (Upd.there (Upd.there (Upd.there (Upd.there (Upd.there (Upd.there Upd.here)))))) | exact (Upd.there (Upd.there (Upd.there (Upd.there (Upd.there (Upd.there (Upd.there Upd.here))))))) | exact (Upd.there (Upd.there (Upd.there (Upd.there (Upd.there (Upd.there (Upd.there (Upd.there Upd.here)))))))) | exact (Upd.there (Upd.there (Upd.there (Upd.there (Upd.there (Upd.there (Upd.there (Upd.there (Upd.there Upd.here))))))))) | exact (Upd.there (Upd.there (Upd.there (Upd.there (Upd.there (Upd.there (Upd.there (Upd.there (Upd.there (Upd.there Upd.here)))))))))) | exact (Upd.there (Upd.there (Upd.there (Upd.there (Upd.there (Upd.there (Upd.there (Upd.there (Upd.there (Upd.there (Upd.there Upd.here)))))))))))) rfl rfl rfl rfl rfl (by rfl) ?_; refine W.step tab_ok rfl rfl ?_) | (refine W.isNew ?_; refine W.new tab_ok rfl rfl (by exact Nat.le_of_ble_eq_true rfl) ?_; intro _; refine W.step tab_ok rfl rfl ?_) | (refine W.isBox ?_; refine W.box rfl rfl (by exact Nat.le_of_ble_eq_true rfl) ?_; intro _; refine W.step tab_ok rfl rfl ?_))
  refine W.val (OpVal.rem rfl rfl (by decide) rfl) (by exact Nat.le_of_ble_eq_true rfl) (W.step tab_ok rfl rfl ?_)
  by_cases h : o.n.tmod 9 = 8
  · have e : o.bytes = o.b.xs.take 40 := by unfold OD.bytes; rw [if_pos h]
    refine W.iteT rfl (by simp [h]) (W.step tab_ok rfl rfl ?_)
    repeat (first | (refine W.isLoad ?_; refine W.val (OpVal.load tab_ok rfl (by first | exact at_own 0 rfl | exact at_own 1 rfl | exact at_own 2 rfl | exact at_own 3 rfl | exact at_own 4 rfl | exact at_own 5 rfl | exact at_own 6 rfl | exact at_own 7 rfl | exact at_own 8 rfl | exact at_own 9 rfl | exact at_own 10 rfl | exact at_own 11 rfl | exact at_ro 0 rfl | exact at_ro 1 rfl | exact at_ro 2 rfl | exact at_ro 3 rfl) (by rfl)) (by exact Nat.le_of_ble_eq_true rfl) ?_; refine W.step tab_ok rfl rfl ?_) | (refine W.isStore ?_; refine W.store tab_ok rfl (by first | exact Upd.here | exact (Upd.there Upd.here) | exact (Upd.there (Upd.there Upd.here)) | exact (Upd.there (Upd.there (Upd.there Upd.here))) | exact (Upd.there (Upd.there (Upd.there (Upd.there Upd.here)))) | exact (Upd.there (Upd.there (Upd.there (Upd.there (Upd.there Upd.here))))) | exact (Upd.there (Upd.there (Upd.there (Upd.there (Upd.there (Upd.there Upd.here)))))) | exact (Upd.there (Upd.there (Upd.there (Upd.there (Upd.there (Upd.there (Upd.there Upd.here))))))) | exact (Upd.there (Upd.there (Upd.there (Upd.there (Upd.there (Upd.there (Upd.there (Upd.there Upd.here)))))))) | exact (Upd.there (Upd.there (Upd.there (Upd.there (Upd.there (Upd.there (Upd.there (Upd.there (Upd.there Upd.here))))))))) | exact (Upd.there (Upd.there (Upd.there (Upd.there (Upd.there (Upd.there (Upd.there (Upd.there (Upd.there (Upd.there Upd.here)))))))))) | exact (Upd.there (Upd.there (Upd.there (Upd.there (Upd.there (Upd.there (Upd.there (Upd.there (Upd.there (Upd.there (Upd.there Upd.here)))))))))))) rfl rfl rfl rfl rfl (by rfl) ?_; refine W.step tab_ok rfl rfl ?_) | (refine W.isNew ?_; refine W.new tab_ok rfl rfl (by exact Nat.le_of_ble_eq_true rfl) ?_; intro _; refine W.step tab_ok rfl rfl ?_) | (refine W.isBox ?_; refine W.box rfl rfl (by exact Nat.le_of_ble_eq_true rfl) ?_; intro _; refine W.step tab_ok rfl rfl ?_))
    refine W.call rfl rfl rfl rfl (hF) (by repeat (first | exact Sel.nil | (apply Sel.cons; (repeat (first | exact Pick.here | apply Pick.there))))) (by repeat (first | exact RoIn.nil | exact RoIn.same | refine RoIn.cons (by first | exact at_own 0 rfl | exact at_own 1 rfl | exact at_own 2 rfl | exact at_own 3 rfl | exact at_own 4 rfl | exact at_own 5 rfl | exact at_own 6 rfl | exact at_own 7 rfl | exact at_own 8 rfl | exact at_own 9 rfl | exact at_own 10 rfl | exact at_own 11 rfl | exact at_ro 0 rfl | exact at_ro 1 rfl | exact at_ro 2 rfl | exact at_ro 3 rfl | exact at_ro 4 rfl | exact at_ro 5 rfl) ?_ | refine RoIn.append ?_ ?_ | exact RoIn.own 0 rfl | exact RoIn.own 1 rfl | exact RoIn.own 2 rfl | exact RoIn.own 3 rfl | exact RoIn.own 4 rfl | exact RoIn.own 5 rfl | exact RoIn.own 6 rfl | exact RoIn.own 7 rfl | exact RoIn.own 8 rfl | exact RoIn.own 9 rfl | exact RoIn.own 10 rfl | exact RoIn.own 11 rfl | (intro p hp; simp [hp]; done))) (by exact Nat.le_of_ble_eq_true rfl) ?_
    rintro _ _ ⟨a, cap, H, rfl, rfl, ho⟩
    refine W.step tab_ok rfl rfl ?_
    refine W.ret (fin _ _ (FinOk.first 1 (.tmp rfl .nil) rfl ?_))
    rw [e]
    exact ⟨a, cap, H, rfl, rfl, ho⟩
  · have e : o.bytes = fill o.b.xs 32 := by unfold OD.bytes; rw [if_neg h]
    have e2 : o.bytes.length = 32 := by rw [e, fill_len]
    refine W.iteF rfl (by simp [h]) (W.step tab_ok rfl rfl ?_)
    repeat (first | (refine W.isLoad ?_; refine W.val (OpVal.load tab_ok rfl (by first | exact at_own 0 rfl | exact at_own 1 rfl | exact at_own 2 rfl | exact at_own 3 rfl | exact at_own 4 rfl | exact at_own 5 rfl | exact at_own 6 rfl | exact at_own 7 rfl | exact at_own 8 rfl | exact at_own 9 rfl | exact at_own 10 rfl | exact at_own 11 rfl | exact at_ro 0 rfl | exact at_ro 1 rfl | exact at_ro 2 rfl | exact at_ro 3 rfl) (by rfl)) (by exact Nat.le_of_ble_eq_true rfl) ?_; refine W.step tab_ok rfl rfl ?_) | (refine W.isStore ?_; refine W.store tab_ok rfl (by first | exact Upd.here | exact (Upd.there Upd.here) | exact (Upd.there (Upd.there Upd.here)) | exact (Upd.there (Upd.there (Upd.there Upd.here))) | exact (Upd.there (Upd.there (Upd.there (Upd.there Upd.here)))) | exact (Upd.there (Upd.there (Upd.there (Upd.there (Upd.there Upd.here))))) | exact (Upd.there (Upd.there (Upd.there (Upd.there (Upd.there (Upd.there Upd.here)))))) | exact (Upd.there (Upd.there (Upd.there (Upd.there (Upd.there (Upd.there (Upd.there Upd.here))))))) | exact (Upd.there (Upd.there (Upd.there (Upd.there (Upd.there (Upd.there (Upd.there (Upd.there Upd.here)))))))) | exact (Upd.there (Upd.there (Upd.there (Upd.there (Upd.there (Upd.there (Upd.there (Upd.there (Upd.there Upd.here))))))))) | exact (Upd.there (Upd.there (Upd.there (Upd.there (Upd.there (Upd.there (Upd.there (Upd.there (Upd.there (Upd.there Upd.here)))))))))) | exact (Upd.there (Upd.there (Upd.there (Upd.there (Upd.there (Upd.there (Upd.there (Upd.there (Upd.there (Upd.there (Upd.there Upd.here)))))))))))) rfl rfl rfl rfl rfl (by rfl) ?_; refine W.step tab_ok rfl rfl ?_) | (refine W.isNew ?_; refine W.new tab_ok rfl rfl (by exact Nat.le_of_ble_eq_true rfl) ?_; intro _; refine W.step tab_ok rfl rfl ?_) | (refine W.isBox ?_; refine W.box rfl rfl (by exact Nat.le_of_ble_eq_true rfl) ?_; intro _; refine W.step tab_ok rfl rfl ?_))
    refine W.call rfl rfl rfl rfl (hL) (by repeat (first | exact Sel.nil | (apply Sel.cons; (repeat (first | exact Pick.here | apply Pick.there))))) (by repeat (first | exact RoIn.nil | exact RoIn.same | refine RoIn.cons (by first | exact at_own 0 rfl | exact at_own 1 rfl | exact at_own 2 rfl | exact at_own 3 rfl | exact at_own 4 rfl | exact at_own 5 rfl | exact at_own 6 rfl | exact at_own 7 rfl | exact at_own 8 rfl | exact at_own 9 rfl | exact at_own 10 rfl | exact at_own 11 rfl | exact at_ro 0 rfl | exact at_ro 1 rfl | exact at_ro 2 rfl | exact at_ro 3 rfl | exact at_ro 4 rfl | exact at_ro 5 rfl) ?_ | refine RoIn.append ?_ ?_ | exact RoIn.own 0 rfl | exact RoIn.own 1 rfl | exact RoIn.own 2 rfl | exact RoIn.own 3 rfl | exact RoIn.own 4 rfl | exact RoIn.own 5 rfl | exact RoIn.own 6 rfl | exact RoIn.own 7 rfl | exact RoIn.own 8 rfl | exact RoIn.own 9 rfl | exact RoIn.own 10 rfl | exact RoIn.own 11 rfl | (intro p hp; simp [hp]; done))) (by exact Nat.le_of_ble_eq_true rfl) ?_
    rintro _ _ ⟨a, cap, H, rfl, rfl, ho⟩
    refine W.step tab_ok rfl rfl ?_
    refine W.ret (fin _ _ (FinOk.first 1 (.tmp rfl .nil) rfl ?_))
    rw [e2, e]
    exact ⟨a, cap, H, rfl, rfl, ho⟩
end Go.Proofs.Ytdhjmeoppmpilaa
