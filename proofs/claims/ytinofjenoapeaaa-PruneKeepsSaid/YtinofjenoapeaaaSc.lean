/- slices.Sort and slices.Compact of ints, over an owned row: what they leave is a rising list of the same numbers. Condition: the row is not empty. -/
import Derived.Test.YtinofjenoapeaaaScP
import Derived.Test.YtinofjenoapeaaaShelf
import Derived.Lib.RowBridge
namespace Go.Proofs.Ytinofjenoapeaaa
open Go.RowKit Go.Shelf Go.Sort Go.Lib
set_option linter.unusedSimpArgs false
set_option linter.unusedVariables false
namespace Sc
variable {W0 : World} {X : Nat → Prop} {R C : List Ch}
/-! ### rows -/
theorem cells_ints (zs : List Int) : cellsOf (zs.map (Value.int .i64)) = zs.map (Value.int .i64) := by
  induction zs with
  | nil => rfl
  | cons z zs ih => unfold cellsOf at ih ⊢; rw [List.map_cons, List.map_cons, List.flatten_cons, ih]; rfl
theorem heap_putRow {w : World} {g : Nat} {d : Array Int} {cur : Array Value} {e : TypeId} {fr : Nat × Nat} (n : Nat) (os : Array Obj) (h : w.heap[g]? = some (.cells cur e fr)) : (grow (putRow (Value.int .i64) (Sort.ahead w n) g 0 d) os).heap[g]? = some (.cells (putCells (Value.int .i64) 0 d cur) e fr) := by
  have hg : g < w.heap.size := (Array.getElem?_eq_some_iff.1 h).1
  unfold grow putRow mapBlock Sort.ahead
  dsimp only
  rw [Array.getElem?_append_left (by simpa using hg), Array.getElem?_modify, if_pos rfl, h]; rfl
theorem touch_putRow {w : World} {g : Nat} (n : Nat) (os : Array Obj) (d : Array Int) {O : Nat → Prop} (hO : O g) : Touch O w (grow (putRow (Value.int .i64) (Sort.ahead w n) g 0 d) os) := by
  refine ⟨rfl, rfl, rfl, by simp [grow, putRow, mapBlock, Sort.ahead], fun k hk hn => ?_⟩
  have hkg : g ≠ k := fun e => hn (e ▸ hO)
  unfold grow putRow mapBlock Sort.ahead
  dsimp only
  rw [Array.getElem?_append_left (by simpa using hk), Array.getElem?_modify, if_neg hkg]
theorem holds_row {w : World} {g : Nat} {zs : List Int} {cur : Array Value} {e : TypeId} (h : w.heap[g]? = some (Obj.cells cur e (0, 0))) (ht : cur.toList.take zs.length = zs.map (Value.int .i64)) : Go.Sort.Holds (Value.int .i64) w g 0 zs.toArray := by
  intro j hj
  have hj' : j < zs.length := by simpa using hj
  refine ⟨?_, frozen_of_row w g _ cur _ h⟩
  rw [cell_of_row w g _ cur _ _ h, Nat.zero_add, ← Array.getElem?_toList]
  have h1 : (zs.map (Value.int .i64))[j]? = some (.int .i64 zs.toArray[j]!) := by simp [hj']
  rw [← ht, List.getElem?_take, if_pos hj'] at h1
  exact h1
theorem putCells_take {d : List Int} {cur : Array Value} {m : Nat} (hm : m ≤ d.length) (hc : d.length ≤ cur.size) : (putCells (Value.int .i64) 0 d.toArray cur).toList.take m = (d.take m).map (Value.int .i64) := by
  apply List.ext_getElem?
  intro j
  by_cases hj : j < m
  · have h1 : j < cur.size := by omega
    have h2 : j < d.length := by omega
    rw [List.getElem?_take, if_pos hj, Array.getElem?_toList]
    unfold putCells
    rw [Array.getElem?_mapIdx, Array.getElem?_eq_getElem h1, Option.map_some, if_pos ⟨Nat.zero_le _, by simpa using h2⟩]
    rw [List.getElem?_map, List.getElem?_take, if_pos hj, List.getElem?_eq_getElem h2]
    simp [h2]
  · rw [List.getElem?_eq_none (by simp; omega), List.getElem?_eq_none (by simp; omega)]
/-- An owned row of numbers, behind a storing of numbers. -/
theorem row_put {w : World} {g n c e : Nat} {zs ys : List Int} {O : Nat → Prop} (h : (RowC e 1 (.slice (some ⟨g, 0, none⟩) n c) (zs.map (.int .i64))).p O w) (hl : ys.length = zs.length) (m : Nat) (hm : m ≤ zs.length) (q : Nat) (os : Array Obj) :
    (RowC e 1 (.slice (some ⟨g, 0, none⟩) m c) ((ys.take m).map (.int .i64))).p O (grow (putRow (Value.int .i64) (Sort.ahead w q) g 0 ys.toArray) os) := by
  obtain ⟨⟨h1, h2⟩, h3, h4, h5⟩ := h
  rcases h2 with ⟨h2, _⟩ | ⟨g', cap, cur, e1, h6, h7, h8, h9, h10, h11⟩
  · cases h2
  obtain ⟨e2, e3, e4⟩ := Value.slice.inj e1
  obtain ⟨rfl, _, _⟩ := Addr.mk.inj (Option.some.inj e2)
  subst e4
  rw [List.length_map] at e3 h8
  have hcs : zs.length ≤ cur.size := by rw [h10]; omega
  have hml : ((ys.take m).map (Value.int .i64)).length = m := by simp; omega
  refine ⟨⟨by rw [cells_ints, hml]; omega, .inr ⟨g, c, _, by rw [hml], h6, heap_putRow q os h7, by rw [hml]; omega, h9, ?_, ?_⟩⟩, (fun h => by cases h), fun x hx => ?_, fun j => h5 j⟩
  · rw [← h10]; unfold putCells; simp
  · rw [hml, Nat.mul_one, putCells_take (by omega) (by omega), cells_ints]
  · obtain ⟨z, _, rfl⟩ := List.mem_map.1 hx; rfl
theorem sort_ct (v : Value) (zs : List Int) (h0 : zs ≠ []) (hb : zs.length ≤ 4611686018427387903) :
    Ct Try.prog 37 [v] W0 X R (RowC 3 1 v (zs.map (.int .i64)) :: C) Unit (fun _ => .tuple #[]) (fun _ => R) (fun _ => RowC 3 1 v ((zs.mergeSort fun x y => decide (x ≤ y)).map (.int .i64)) :: C) := by
  intro w hw
  have hz : 0 < zs.length := List.length_pos_iff.2 h0
  obtain ⟨O, hrow⟩ := hw.hasC (c := RowC 3 1 v (zs.map (.int .i64))) (by simp)
  obtain ⟨g, c, rfl, hO⟩ := RowC.len0 hrow (by simpa using hz)
  rw [List.length_map] at hrow ⊢
  rw [List.length_map] at hw
  have hrow2 := hrow
  obtain ⟨⟨h1, h2⟩, h3, h4, h5⟩ := hrow2
  rcases h2 with ⟨h2, _⟩ | ⟨g', cap, cur, e1, h6, h7, h8, h9, h10, h11⟩
  · cases h2
  obtain ⟨e2, e3, e4⟩ := Value.slice.inj e1
  obtain ⟨rfl, _, _⟩ := Addr.mk.inj (Option.some.inj e2)
  rw [cells_ints, List.length_map, Nat.mul_one] at h11
  refine (Try.slices_Sort_int g 0 c zs w (holds_row h7 h11) ((RowC 3 1 _ _).lt hrow g hO) (by omega)).mono ?_
  rintro e w' ⟨rfl, q, os, rfl⟩
  refine ⟨(), rfl, hw.upd (fun O' hO' => ⟨O', touch_putRow q os _ ((hO'.2.2.2 g).2 rfl), ?_, fun k hk => .inl hk⟩)⟩
  have := row_put hO' (ys := zs.mergeSort fun x y => decide (x ≤ y)) (by simp) zs.length (Nat.le_refl _) q os
  rw [List.take_of_length_le (by simp)] at this
  exact this
theorem compact_ct (v : Value) (zs : List Int) (h0 : zs ≠ []) (hb : zs.length ≤ 4611686018427387903) :
    Ct Try.prog 39 [v] W0 X R (RowC 3 1 v (zs.map (.int .i64)) :: C) SV (fun u => u.1) (fun _ => R) (fun u => RowC 3 1 u.1 ((compact zs).map (.int .i64)) :: C) := by
  intro w hw
  have hz : 0 < zs.length := List.length_pos_iff.2 h0
  obtain ⟨O, hrow⟩ := hw.hasC (c := RowC 3 1 v (zs.map (.int .i64))) (by simp)
  obtain ⟨g, c, rfl, hO⟩ := RowC.len0 hrow (by simpa using hz)
  rw [List.length_map] at hrow ⊢
  rw [List.length_map] at hw
  have hrow2 := hrow
  obtain ⟨⟨h1, h2⟩, h3, h4, h5⟩ := hrow2
  rcases h2 with ⟨h2, _⟩ | ⟨g', cap, cur, e1, h6, h7, h8, h9, h10, h11⟩
  · cases h2
  obtain ⟨e2, e3, e4⟩ := Value.slice.inj e1
  obtain ⟨rfl, _, _⟩ := Addr.mk.inj (Option.some.inj e2)
  subst e4
  rw [cells_ints, List.length_map, Nat.mul_one] at h11
  rw [List.length_map] at h8
  have hcl := compact_length_le zs
  refine (Try.slices_Compact_int g 0 c zs w (holds_row h7 h11) (by omega) h8).mono ?_
  rintro e w' ⟨rfl, q, rfl⟩
  refine ⟨⟨.slice (some ⟨g, 0, none⟩) (compact zs).length c, _, _, _, rfl⟩, rfl, hw.upd (fun O' hO' => ⟨O', ?_, ?_, fun k hk => .inl hk⟩)⟩
  · have := touch_putRow q #[] (compact zs ++ List.replicate (zs.length - (compact zs).length) 0).toArray (w := w) ((hO'.2.2.2 g).2 rfl)
    rwa [grow_empty] at this
  · have := row_put hO' (ys := compact zs ++ List.replicate (zs.length - (compact zs).length) 0) (by simp; omega) (compact zs).length hcl q #[]
    rw [List.take_left, grow_empty] at this
    exact this
end Sc
end Go.Proofs.Ytinofjenoapeaaa
