/- Plain laws of runs of a list: one more, and through a map. No condition. -/
import Derived.Test.YtncjgkghhcpagaaS7
namespace Go.Proofs.Ytncjgkghhcpagaa
open Go.RowKit Go.Shelf
set_option linter.unusedSimpArgs false
set_option linter.unusedVariables false
theorem chunks_dec {α : Type} {n : Nat} (h0 : 0 < n) : ∀ (m : Nat) (xs : List α), xs.length ≤ m → ∃ (q : List (List α)) (r : List α), xs = q.flatten ++ r ∧ (∀ c ∈ q, c.length = n) ∧ r.length < n ∧ xs.length % n = r.length
  | 0, xs, h => ⟨[], xs, by simp, by simp, by omega, Nat.mod_eq_of_lt (by omega)⟩
  | m + 1, xs, h => by
    by_cases hl : xs.length < n
    · exact ⟨[], xs, by simp, by simp, hl, Nat.mod_eq_of_lt hl⟩
    · obtain ⟨q, r, h1, h2, h3, h4⟩ := chunks_dec h0 m (xs.drop n) (by simp; omega)
      refine ⟨xs.take n :: q, r, ?_, fun c hc => ?_, h3, ?_⟩
      · rw [List.flatten_cons, List.append_assoc, ← h1, List.take_append_drop]
      · rcases List.mem_cons.1 hc with rfl | hc
        · rw [List.length_take]; omega
        · exact h2 c hc
      · rw [← h4, List.length_drop, Nat.mod_eq_sub_mod (by omega)]
theorem chunks_snoc {α : Type} {n : Nat} (h0 : 0 < n) (xs : List α) (x : α) :
    (xs.length % n = 0 → chunks n (xs ++ [x]) = chunks n xs ++ [[x]]) ∧ (xs.length % n ≠ 0 → ∃ cs c, chunks n xs = cs ++ [c] ∧ chunks n (xs ++ [x]) = cs ++ [c ++ [x]]) := by
  obtain ⟨q, r, h1, h2, h3, h4⟩ := chunks_dec h0 xs.length xs (Nat.le_refl _)
  constructor
  · intro h
    obtain rfl : r = [] := List.eq_nil_of_length_eq_zero (by omega)
    rw [h1, List.append_nil, chunks_all h0 q [x] h2, chunks_last (by simp) (by simp; omega)]
    have := chunks_all h0 q ([] : List α) h2
    rw [List.append_nil] at this
    rw [this]; simp [chunks]
  · intro h
    have hr : r ≠ [] := fun e => by subst e; simp at h4; omega
    refine ⟨q, r, ?_, ?_⟩
    · rw [h1, chunks_all h0 q r h2, chunks_last hr (by omega)]
    · rw [h1, List.append_assoc, chunks_all h0 q _ h2, chunks_last (by simp) (by simp; omega)]
theorem chunks_map {α β : Type} (f : α → β) (n : Nat) : ∀ (m : Nat) (xs : List α), xs.length ≤ m → chunks n (xs.map f) = (chunks n xs).map (List.map f)
  | _, [], _ => by simp [chunks]
  | 0, _ :: _, h => by simp at h
  | m + 1, x :: xs, h => by
    rw [List.map_cons, chunks, chunks]
    split
    · rfl
    · rw [← List.map_take, ← List.map_drop, chunks_map f n m (xs.drop (n - 1)) (by simp at h ⊢; omega)]; rfl
theorem chunks_le {α : Type} {n : Nat} : ∀ (m : Nat) (xs : List α), xs.length ≤ m → (chunks n xs).length ≤ xs.length
  | _, [], _ => by simp [chunks]
  | 0, _ :: _, h => by simp at h
  | m + 1, x :: xs, h => by
    rw [chunks]
    split
    · simp
    · have := chunks_le (n := n) m (xs.drop (n - 1)) (by simp at h ⊢; omega)
      simp at this ⊢; omega
end Go.Proofs.Ytncjgkghhcpagaa
