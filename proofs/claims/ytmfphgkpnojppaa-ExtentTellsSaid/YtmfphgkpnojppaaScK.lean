/- Rows of extents in the words of the kit's sort. No condition. -/
import Derived.Test.YtmfphgkpnojppaaExQ
import Derived.Shelf.SlSortCmp.WholeK
import Derived.Shelf.SlSortCmp.NoneTotal
namespace Go.Proofs.Ytmfphgkpnojppaa
open Go.RowKit Go.Shelf Go.Sort Go.Lib
set_option linter.unusedSimpArgs false
set_option linter.unusedVariables false
namespace Ex
instance : Inhabited Ext := ⟨⟨0, 0⟩⟩
def enc (x : Ext) : List Value := [.int .i64 x.a, .int .i64 x.n]
theorem flat_cons (x : Ext) (xs : List Ext) : (flatK enc 2 (x :: xs).toArray).toList = enc x ++ (flatK enc 2 xs.toArray).toList := by
  apply List.ext_getElem
  · simp [enc]; omega
  · intro t h1 h2
    have ht : t < (xs.length + 1) * 2 := by simpa using h1
    simp only [flatK, Array.getElem_toList, Array.getElem_map, Array.getElem_range]
    by_cases h : t < 2
    · rw [List.getElem_append_left (by simpa [enc] using h)]
      match t, h with
      | 0, _ => simp [enc]
      | 1, _ => simp [enc]
    · obtain ⟨s, rfl⟩ : ∃ s, t = s + 2 := ⟨t - 2, by omega⟩
      rw [List.getElem_append_right (by simp [enc])]
      have e1 : (s + 2) / 2 = s / 2 + 1 := by omega
      have e2 : (s + 2) % 2 = s % 2 := by omega
      have hs : s / 2 < xs.length := by omega
      simp only [e1, e2, enc, List.length_cons, List.length_nil, Nat.add_sub_cancel, Array.getElem_toList, Array.getElem_map, Array.getElem_range]
      simp [hs, show s + 2 - 2 = s by omega]
theorem flat_cells : ∀ (L : List Ext), (flatK enc 2 L.toArray).toList = cellsOf (L.map Ext.v)
  | [] => by simp [flatK, cellsOf]
  | x :: xs => by rw [flat_cons, flat_cells xs]; rfl
theorem heap_putRowV {w : World} {g : Nat} {d : Array Value} {cur : Array Value} {e : TypeId} {fr : Nat × Nat} (n : Nat) (os : Array Obj) (h : w.heap[g]? = some (.cells cur e fr)) : (grow (putRow id (Sort.ahead w n) g 0 d) os).heap[g]? = some (.cells (putCells id 0 d cur) e fr) := by
  have hg : g < w.heap.size := (Array.getElem?_eq_some_iff.1 h).1
  unfold grow putRow mapBlock Sort.ahead
  dsimp only
  rw [Array.getElem?_append_left (by simpa using hg), Array.getElem?_modify, if_pos rfl, h]; rfl
theorem touch_putRowV {w : World} {g : Nat} (n : Nat) (os : Array Obj) (d : Array Value) {O : Nat → Prop} (hO : O g) : Touch O w (grow (putRow id (Sort.ahead w n) g 0 d) os) := by
  refine ⟨rfl, rfl, rfl, by simp [grow, putRow, mapBlock, Sort.ahead], fun k hk hn => ?_⟩
  have hkg : g ≠ k := fun e => hn (e ▸ hO)
  unfold grow putRow mapBlock Sort.ahead
  dsimp only
  rw [Array.getElem?_append_left (by simpa using hk), Array.getElem?_modify, if_neg hkg]
theorem putCellsV_take {d cur : Array Value} (hc : d.size ≤ cur.size) : (putCells id 0 d cur).toList.take d.size = d.toList := by
  apply List.ext_getElem?
  intro j
  by_cases hj : j < d.size
  · have h1 : j < cur.size := by omega
    rw [List.getElem?_take, if_pos hj, Array.getElem?_toList]
    unfold putCells
    rw [Array.getElem?_mapIdx, Array.getElem?_eq_getElem h1, Option.map_some, if_pos ⟨Nat.zero_le _, by omega⟩]
    rw [Array.getElem?_toList, Array.getElem?_eq_getElem hj]
    simp [hj]
  · rw [List.getElem?_eq_none (by simp; omega), List.getElem?_eq_none (by simp; omega)]
theorem holds_rowV {w : World} {g : Nat} {L : List Ext} {cur : Array Value} {e : TypeId} (h : w.heap[g]? = some (Obj.cells cur e (0, 0))) (ht : cur.toList.take (L.length * 2) = cellsOf (L.map Ext.v)) : HoldsK enc 2 w g 0 L.toArray := by
  intro j hj
  have hj' : j < L.length * 2 := by simpa using hj
  refine ⟨?_, frozen_of_row w g _ cur _ h⟩
  rw [cell_of_row w g _ cur _ _ h, Nat.zero_add, ← Array.getElem?_toList]
  have h1 : (flatK enc 2 L.toArray).toList[j]? = some (flatK enc 2 L.toArray)[j]! := by
    rw [Array.getElem?_toList, Array.getElem?_eq_getElem hj]
    exact congrArg some (getElem!_pos _ j hj).symm
  rw [flat_cells, ← ht, List.getElem?_take, if_pos hj'] at h1
  exact h1
/-- An owned row of extents, behind the sort's storing. -/
theorem row_putV {w : World} {g n c e : Nat} {L : List Ext} {d : Array Ext} {O : Nat → Prop} (h : (RowC e 2 (.slice (some ⟨g, 0, none⟩) n c) (L.map Ext.v)).p O w) (hl : d.size = L.length) (q : Nat) (os : Array Obj) :
    (RowC e 2 (.slice (some ⟨g, 0, none⟩) n c) (d.toList.map Ext.v)).p O (sortWorldK enc 2 w g 0 q d os) := by
  obtain ⟨⟨h1, h2⟩, h3, h4, h5⟩ := h
  rcases h2 with ⟨h2, _⟩ | ⟨g', cap, cur, e1, h6, h7, h8, h9, h10, h11⟩
  · cases h2
  obtain ⟨e2, e3, e4⟩ := Value.slice.inj e1
  obtain ⟨rfl, _, _⟩ := Addr.mk.inj (Option.some.inj e2)
  subst e4
  rw [List.length_map] at e3 h8
  have hml : (d.toList.map Ext.v).length = L.length := by simp [hl]
  have hfs : (flatK enc 2 d).size = L.length * 2 := by rw [size_flatK, hl]
  have hfc : (flatK enc 2 d).toList = cellsOf (d.toList.map Ext.v) := flat_cells d.toList
  have hcs : (flatK enc 2 d).size ≤ cur.size := by rw [hfs, h10]; exact Nat.mul_le_mul_right _ h8
  unfold sortWorldK putRowK
  refine ⟨⟨?_, .inr ⟨g, c, _, by rw [hml, e3], h6, heap_putRowV q os h7, by rw [hml]; exact h8, h9, ?_, ?_⟩⟩, (fun h => by cases h), fun x hx => ?_, fun j => h5 j⟩
  · rw [← hfc, hml]; simpa using hfs
  · rw [← h10]; unfold putCells; simp
  · rw [hml, ← hfs, putCellsV_take hcs, hfc]
  · obtain ⟨z, _, rfl⟩ := List.mem_map.1 hx; rfl
/-! ### the rising list -/
def cfA (x y : Ext) : Int := Lib.compareInt x.a y.a
theorem ltA (x y : Ext) : ltOf cfA x y = decide (x.a < y.a) := by
  unfold ltOf cfA Lib.compareInt
  by_cases h1 : x.a < y.a
  · simp [h1]
  · by_cases h2 : y.a < x.a <;> simp [h1, h2]
theorem swoA : SWO (ltOf cfA) where
  irrefl x := by rw [ltA]; simp
  trans x y z h1 h2 := by rw [ltA] at *; simp at *; omega
  ntrans x y z h1 h2 := by rw [ltA] at *; simp at *; omega
def risL (L : List Ext) : List Ext := (pdq (ltOf cfA) L.toArray 0 L.length (Lib.bitLen L.length) true true).toList
theorem ris_sorts (L : List Ext) : PermIn 0 L.length L.toArray (pdq (ltOf cfA) L.toArray 0 L.length (Lib.bitLen L.length) true true) ∧ SortedIn (ltOf cfA) 0 L.length (pdq (ltOf cfA) L.toArray 0 L.length (Lib.bitLen L.length) true true) :=
  pdq_sorts (ltOf cfA) swoA L.toArray 0 L.length (Lib.bitLen L.length) true true (Nat.zero_le _) (by simp) (Or.inl rfl)
theorem ris_len (L : List Ext) : (risL L).length = L.length := by have := (ris_sorts L).1.1; simpa [risL] using this
theorem ris_perm (L : List Ext) : L.Perm (risL L) := by
  have h := (ris_sorts L).1.2.2
  have hs : (pdq (ltOf cfA) L.toArray 0 L.length (Lib.bitLen L.length) true true).size = L.length := by simpa using (ris_sorts L).1.1
  simp only [Array.toList_extract, List.extract_eq_take_drop, List.drop_zero, Nat.sub_zero] at h
  rw [List.take_of_length_le (by simp [hs]), List.take_of_length_le (by simp)] at h
  exact h.symm
theorem ris_sorted (L : List Ext) : (risL L).Pairwise (fun x y => x.a ≤ y.a) := by
  have h := (ris_sorts L).2
  have hl := ris_len L
  rw [List.pairwise_iff_getElem]
  intro i j hi hj hij
  have h1 := h i j (Nat.zero_le _) hij (by omega)
  rw [ltA] at h1
  have hs : (pdq (ltOf cfA) L.toArray 0 L.length (Lib.bitLen L.length) true true).size = L.length := by simpa using (ris_sorts L).1.1
  rw [getElem!_pos _ i (by omega), getElem!_pos _ j (by omega)] at h1
  simp at h1
  exact h1
theorem apart_ris (L : List Ext) : apS (risL L) 0 = true ↔ Apart L := by
  rw [apS_ris _ 0 (Int.le_refl _), ris_iff (ris_perm L) (ris_sorted L)]
end Ex
end Go.Proofs.Ytmfphgkpnojppaa
