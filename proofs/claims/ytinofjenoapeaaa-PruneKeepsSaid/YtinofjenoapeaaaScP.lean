/- Plain laws of a sorted list whose doubles are taken out. No condition. -/
import Derived.Test.YtinofjenoapeaaaT0
import Derived.Lib.SlicesCompact
namespace Go.Proofs.Ytinofjenoapeaaa
open Go.RowKit Go.Shelf Go.Sort Go.Lib
set_option linter.unusedSimpArgs false
set_option linter.unusedVariables false
namespace Sc
/-! ### plain laws -/
def upr (zs : List Int) : List Int := compact (zs.mergeSort fun x y => decide (x ≤ y))
structure CuI (d : Array Int) (m : Nat) : Prop where
  lt : (compactUpTo d m).Pairwise (· < ·)
  le : ∀ x ∈ compactUpTo d m, ∃ j, j < m ∧ d[j]! = x
  all : ∀ j, j < m → d[j]! ∈ compactUpTo d m
theorem cuI (d : Array Int) (hs : ∀ i j, i ≤ j → j < d.size → d[i]! ≤ d[j]!) : ∀ m, m ≤ d.size → CuI d m
  | 0, _ => ⟨by simp [compactUpTo], fun x hx => by simp [compactUpTo] at hx, fun j hj => by omega⟩
  | m + 1, hm => by
    have h := cuI d hs m (by omega)
    have e := compactUpTo_succ d m
    by_cases hk : keeps d m = true
    · rw [hk, if_pos rfl] at e
      rw [show CuI d (m + 1) ↔ CuI d (m + 1) from Iff.rfl]
      refine ⟨?_, ?_, ?_⟩
      · rw [e]
        refine List.pairwise_append.2 ⟨h.lt, by simp, fun x hx y hy => ?_⟩
        rw [List.mem_singleton.1 hy]
        obtain ⟨j, hj, rfl⟩ := h.le x hx
        have h1 := hs j (m - 1) (by omega) (by omega)
        have h2 := hs (m - 1) m (by omega) (by omega)
        have h3 : d[m]! ≠ d[m - 1]! := by
          unfold keeps at hk
          rcases of_decide_eq_true hk with hk | hk
          · omega
          · exact hk
        omega
      · intro x hx
        rw [e] at hx
        rcases List.mem_append.1 hx with hx | hx
        · obtain ⟨j, hj, e⟩ := h.le x hx; exact ⟨j, by omega, e⟩
        · exact ⟨m, by omega, (List.mem_singleton.1 hx).symm⟩
      · intro j hj
        rw [e]
        by_cases hjm : j = m
        · rw [hjm]; simp
        · exact List.mem_append_left _ (h.all j (by omega))
    · rw [if_neg hk, List.append_nil] at e
      refine ⟨e ▸ h.lt, fun x hx => ?_, fun j hj => ?_⟩
      · obtain ⟨j, hj, e2⟩ := h.le x (e ▸ hx); exact ⟨j, by omega, e2⟩
      · rw [e]
        by_cases hjm : j = m
        · subst hjm
          have hkk : ¬ (j = 0 ∨ d[j]! ≠ d[j - 1]!) := fun hh => hk (by unfold keeps; exact decide_eq_true hh)
          have h1 : d[j]! = d[j - 1]! := by
            by_cases he : d[j]! = d[j - 1]!
            · exact he
            · exact absurd (.inr he) hkk
          rw [h1]
          exact h.all (j - 1) (by omega)
        · exact h.all j (by omega)
theorem sorted_at {zs : List Int} (h : zs.Pairwise (· ≤ ·)) (i j : Nat) (hij : i ≤ j) (hj : j < zs.toArray.size) : zs.toArray[i]! ≤ zs.toArray[j]! := by
  have hj' : j < zs.length := by simpa using hj
  rw [getElem!_pos _ i (by simp; omega), getElem!_pos _ j (by simpa using hj')]
  simp only [List.getElem_toArray]
  rcases Nat.lt_or_ge i j with hlt | hge
  · exact List.pairwise_iff_getElem.1 h i j (by omega) hj' hlt
  · have : i = j := by omega
    subst this; exact Int.le_refl _
theorem ms_sorted (zs : List Int) : (zs.mergeSort fun x y => decide (x ≤ y)).Pairwise (· ≤ ·) := by
  have := List.pairwise_mergeSort (le := fun x y : Int => decide (x ≤ y)) (fun a b c h1 h2 => by simp at *; omega) (fun a b => by simp; omega) zs
  exact this.imp (fun h => of_decide_eq_true h)
theorem upr_lt (zs : List Int) : (upr zs).Pairwise (· < ·) := (cuI _ (sorted_at (ms_sorted zs)) _ (by simp)).lt
theorem mem_upr (zs : List Int) (x : Int) : x ∈ upr zs ↔ x ∈ zs := by
  have h := cuI _ (sorted_at (ms_sorted zs)) (zs.mergeSort fun x y => decide (x ≤ y)).length (by simp)
  constructor
  · intro hx
    obtain ⟨j, hj, e⟩ := h.le x hx
    rw [getElem!_pos _ j (by simpa using hj), List.getElem_toArray] at e
    exact List.mem_mergeSort.1 (e ▸ List.getElem_mem _)
  · intro hx
    obtain ⟨j, hj, e⟩ := List.mem_iff_getElem.1 (List.mem_mergeSort (le := fun x y : Int => decide (x ≤ y)).2 hx)
    have := h.all j hj
    rw [getElem!_pos _ j (by simpa using hj), List.getElem_toArray, e] at this
    exact this
theorem compact_len_le (zs : List Int) : (compact zs).length ≤ zs.length := by
  unfold compact compactUpTo
  rw [List.length_map]
  exact Nat.le_trans (List.length_filter_le _ _) (by simp)
theorem upr_len (zs : List Int) : (upr zs).length ≤ zs.length := by
  have := compact_len_le (zs.mergeSort fun x y => decide (x ≤ y))
  simpa [upr] using this
end Sc
end Go.Proofs.Ytinofjenoapeaaa
