/- Plain facts about plans: how many parts, how long. No condition. -/
import Derived.Test.YtinofjenoapeaaaPlP
namespace Go.Proofs.Ytinofjenoapeaaa
open Go.RowKit Go.Shelf
set_option linter.unusedSimpArgs false
set_option linter.unusedVariables false
namespace Pl
open Li
/-- How many items speak of timelines up to t. -/
def upTo (L : List It2) (t : Int) : Nat := (L.filter fun x => decide (x.tl ≤ t)).length
theorem upTo_lt {L : List It2} {t u : Int} {x : It2} (hx : x ∈ L) (h1 : x.tl ≤ t) (h2 : u < x.tl) : upTo L u < upTo L t := by
  unfold upTo
  induction L with
  | nil => cases hx
  | cons y L ih =>
    have hle : ∀ L : List It2, (L.filter fun z => decide (z.tl ≤ u)).length ≤ (L.filter fun z => decide (z.tl ≤ t)).length := by
      intro L
      induction L with
      | nil => simp
      | cons z L ih =>
        simp only [List.filter_cons]
        by_cases hz : z.tl ≤ u
        · rw [if_pos (by simpa using hz), if_pos (by simp; omega)]; simp only [List.length_cons]; omega
        · rw [if_neg (by simpa using hz)]
          split
          · simp only [List.length_cons]; omega
          · exact ih
    have hle := hle L
    rcases List.mem_cons.1 hx with rfl | hx
    · simp only [List.filter_cons]
      rw [if_neg (by simpa using h2), if_pos (by simpa using h1)]
      simp only [List.length_cons]; omega
    · have := ih hx
      simp only [List.filter_cons]
      by_cases hy : y.tl ≤ u
      · rw [if_pos (by simpa using hy), if_pos (by simp; omega)]; simp only [List.length_cons]; omega
      · rw [if_neg (by simpa using hy)]
        split
        · simp only [List.length_cons]; omega
        · exact this
theorem upTo_le (L : List It2) (t : Int) : upTo L t ≤ L.length := List.length_filter_le _ _
theorem parent_up (L : List It2) (t : Int) (h : 1 ≤ t) : (parentP L t).1 < 1 ∨ upTo L (parentP L t).1 < upTo L t := by
  unfold parentP
  by_cases h1 : t ≤ 1 ∨ knownL L t = false
  · rw [if_pos h1]; exact .inl (by dsimp only; omega)
  · rw [if_neg h1]
    have h2 : 1 < t := by omega
    have h3 : knownL L t = true := by cases hk : knownL L t with | true => rfl | false => exact absurd (.inr hk) h1
    cases hl : lineP L t with
    | none => rw [knownL_none h2 hl] at h3; cases h3
    | some x =>
      rw [knownL_some h2 hl] at h3
      have hxL := List.mem_of_find?_eq_some hl
      have hxt := List.find?_some hl
      simp [isLine] at hxt
      have hp : x.par < t := by
        by_cases hp : x.par < t
        · exact hp
        · rw [if_neg hp] at h3; cases h3
      refine .inr ?_
      simp only [Option.getD_some]
      exact upTo_lt hxL (by omega) (by omega)
theorem wayU_up (L : List It2) : ∀ (m : Nat) (t n : Int), upTo L t ≤ m → (wayU L t n).length ≤ m + 1
  | 0, t, n, h => by
    rw [wayU]
    split
    · rename_i h1
      rcases parent_up L t h1 with h2 | h2
      · rw [wayU, dif_neg (by omega)]; simp
      · omega
    · simp
  | m + 1, t, n, h => by
    rw [wayU]
    split
    · rename_i h1
      rcases parent_up L t h1 with h2 | h2
      · rw [wayU, dif_neg (by omega)]; simp
      · have := wayU_up L m (parentP L t).1 (min (parentP L t).2.1 n) (by omega)
        simp only [List.length_cons]; omega
    · simp
theorem wayU_few (L : List It2) (t n : Int) : (wayU L t n).length ≤ L.length + 1 := by
  have h1 := wayU_up L _ t n (Nat.le_refl _)
  have h2 := upTo_le L t
  omega
theorem cover_lenD (L : List It2) (u fr to : Int) : ((Re.cover L u fr to).getD []).length ≤ L.length := by
  cases h : Re.cover L u fr to with
  | none => simp
  | some zs =>
    have h1 := Re.cover_len L u _ fr to zs (Nat.le_refl _) h
    have h2 := Re.above_le L fr
    simp only [Option.getD_some]; omega
theorem covStep_len (L : List It2) (s : List Int × List Int × Bool) (u fr to : Int) : (covStep L s u fr to).1.length ≤ s.1.length + L.length ∧ (covStep L s u fr to).2.1.length ≤ s.2.1.length + L.length := by
  have := cover_lenD L u fr to
  unfold covStep
  split
  · simp only [List.length_append, List.length_replicate]; omega
  · omega
/-- What is there behind some parts, from a state. -/
def covF (L : List It2) (s : List Int × List Int × Bool) (xs : List (Nat × Prt)) : List Int × List Int × Bool := xs.foldl (fun s y => covStep L s y.2.u y.2.fr y.2.to) s
theorem covF_snoc (L : List It2) (s : List Int × List Int × Bool) (xs : List (Nat × Prt)) (x : Nat × Prt) : covF L s (xs ++ [x]) = covStep L (covF L s xs) x.2.u x.2.fr x.2.to := by unfold covF; rw [List.foldl_append]; rfl
theorem covF_len (L : List It2) (s : List Int × List Int × Bool) : ∀ (xs : List (Nat × Prt)), (covF L s xs).1.length ≤ s.1.length + xs.length * L.length ∧ (covF L s xs).2.1.length ≤ s.2.1.length + xs.length * L.length
  | [] => by unfold covF; simp
  | x :: xs => by
    have h1 := covStep_len L s x.2.u x.2.fr x.2.to
    have h2 := covF_len L (covStep L s x.2.u x.2.fr x.2.to) xs
    have h3 : (x :: xs).length * L.length = xs.length * L.length + L.length := by rw [List.length_cons, Nat.add_mul, Nat.one_mul]
    rw [h3]
    unfold covF at h2 ⊢
    rw [List.foldl_cons]
    omega
theorem bkL_snd (P : List Prt) : (bkL P).map (·.2) = P.reverse := by
  unfold bkL
  rw [List.map_map, List.map_reverse]
  congr 1
  apply List.ext_getElem
  · simp
  · intro i h1 h2
    simp [prtAt]
    rw [List.getElem?_eq_getElem h2]; rfl
theorem bkL_len (P : List Prt) : (bkL P).length = P.length := by unfold bkL; simp
theorem planAt_covF (L : List It2) (P : List Prt) (i : Nat) (x : Prt) (b : It2) : planAt L P i x b = covF L (covStep L ([], [], true) x.u b.a x.to) (bkL (P.take i)) := by
  unfold planAt covF
  rw [← bkL_snd, List.foldl_map]
end Pl
end Go.Proofs.Ytinofjenoapeaaa
