/-
  The library's sort of numbers, as these walks speak of it.
-/
import Derived.Test.YtpimbaphenignaaVc
import Derived.Test.YtpimbaphenignaaShelf
namespace Go.Proofs.Ytpimbaphenignaa
open Go Go.Sl Go.IntWalk Go.Sort
set_option linter.unusedVariables false
theorem ints_mp (zs : List Int) : ints zs = zs.map (.int .i64) := by
  unfold ints
  induction zs with
  | nil => rfl
  | cons x l ih => simp [ih]
def sortI (zs : List Int) : List Int := zs.mergeSort fun x y => decide (x ≤ y)
theorem sortI_len (zs : List Int) : (sortI zs).length = zs.length := by unfold sortI; exact List.length_mergeSort _
theorem Sort_spec (zs : List Int) (hl : zs.length ≤ 1000000) (a : Option Addr) (cap : Nat) (H : HL) (ho : Own 1 3 (ints zs) a zs.length cap H) :
    Ctr Try.prog 38 [.slice a zs.length cap] [H] [] (fun _ L' => ∃ H', L' = [H'] ∧ Own 1 3 (ints (sortI zs)) a zs.length cap H') := by
  refine ⟨Try.call38, fun w h1 h2 _ => ?_⟩
  by_cases h0 : zs.length = 0
  · have hz : zs = [] := List.eq_nil_of_length_eq_zero h0
    subst hz
    refine (Try.slices_Sort_int_none a cap w).mono ?_
    rintro e w' ⟨rfl, rfl⟩
    refine ⟨_, [H], rfl, ⟨H, rfl, ?_⟩, ?_⟩
    · unfold sortI; rw [List.mergeSort_nil]; exact ho
    · exact ⟨h1, h2, fun b _ _ => rfl, fun b hb => .inl hb, Nat.le_refl _, fun _ h => (by cases h), ⟨rfl, rfl, rfl⟩⟩
  · obtain ⟨b, l, rfl, rfl, hc, hlen, ht⟩ := ho.some (by omega)
    rw [Nat.mul_one] at hlen ht
    have hb : w.heap[b]? = some (.cells l.toArray 3 (0, 0)) := h1 (b, .cells l.toArray 3 (0, 0)) (by simp)
    have hbl : b < w.heap.size := (Array.getElem?_eq_some_iff.1 hb).1
    have hH : Holds (Value.int .i64) w b 0 zs.toArray := by
      intro j hj
      have hj' : j < zs.length := by simpa using hj
      refine ⟨?_, by simp [World.frozen?, hb]⟩
      have e1 : (l.take zs.length)[j]? = (ints zs)[j]? := by rw [ht]
      rw [List.getElem?_take, if_pos hj', ints_mp, List.getElem?_map, List.getElem?_eq_getElem hj'] at e1
      rw [cell_of_row w b (0 + j) _ _ _ hb, Nat.zero_add]
      simpa [getElem!_pos, hj'] using e1
    refine (Try.slices_Sort_int b 0 cap zs w hH hbl (by omega)).mono ?_
    rintro e w' ⟨rfl, n, os, rfl⟩
    have hsl := sortI_len zs
    have hrow : ∀ i, i < w.heap.size → (grow (putRow (Value.int .i64) (Sort.ahead w n) b 0 (zs.mergeSort fun x y => decide (x ≤ y)).toArray) os).heap[i]? = if i = b then some (.cells (putCells (Value.int .i64) 0 (sortI zs).toArray l.toArray) 3 (0, 0)) else w.heap[i]? := by
      intro i hi
      simp only [grow, putRow, mapBlock, Sort.ahead]
      rw [Array.getElem?_append_left (by simpa using hi), Array.getElem?_modify]
      by_cases hib : i = b
      · subst hib
        rw [if_pos rfl, if_pos rfl, hb]
        rfl
      · rw [if_neg (Ne.symm hib), if_neg hib]
    refine ⟨_, [[(b, .cells (putCells (Value.int .i64) 0 (sortI zs).toArray l.toArray) 3 (0, 0))]], rfl, ⟨_, rfl, ?_⟩, ?_⟩
    · refine ⟨by rw [ints_mp, List.length_map, hsl, Nat.mul_one], .inr ⟨b, (putCells (Value.int .i64) 0 (sortI zs).toArray l.toArray).toList, rfl, rfl, hc, by simp [putCells, hlen], ?_⟩⟩
      apply List.ext_getElem?
      intro j
      rw [List.getElem?_take, ints_mp, List.getElem?_map, Array.getElem?_toList, Nat.mul_one]
      by_cases hj : j < zs.length
      · have hjc : j < l.toArray.size := by simp; omega
        rw [if_pos hj]
        simp only [putCells, Array.getElem?_mapIdx, Array.getElem?_eq_getElem hjc, Option.map_some]
        rw [if_pos ⟨Nat.zero_le _, by simp [hsl]; omega⟩, List.getElem?_eq_getElem (by omega)]
        simp [getElem!_pos, show j < (sortI zs).length by omega]
      · rw [if_neg hj, List.getElem?_eq_none (by omega)]
        rfl
    · refine ⟨?_, by simp [ids], fun i hi hne => ?_, fun i hi => .inl (by simpa [ids] using hi), ?_, fun _ h => (by cases h), ⟨rfl, rfl, rfl⟩⟩
      · intro p hp
        simp at hp
        subst hp
        rw [hrow b hbl, if_pos rfl]
      · rw [hrow i hi, if_neg (by simpa [ids] using hne)]
      · simp [grow, putRow, mapBlock, Sort.ahead]
end Go.Proofs.Ytpimbaphenignaa
