/- What law 22 asks first, as plain facts. No condition. -/
import Derived.Test.YtinofjenoapeaaaPlP
import Derived.Test.YtinofjenoapeaaaChn2
import Derived.Test.YtinofjenoapeaaaScP
namespace Go.Proofs.Ytinofjenoapeaaa
open Go.RowKit Go.Shelf
set_option linter.unusedSimpArgs false
set_option linter.unusedVariables false
namespace Law22
open Pl Li
def x1 : It2 := ⟨1, 2, 1, 0, 1, 2, 0, 0, .slice none 0 0⟩
def x2 : It2 := ⟨2, 1, 1, 0, 0, 5, 0, 0, .slice none 0 0⟩
def x3 : It2 := ⟨3, 4, 2, 0, 4, 0, 1, 0, .slice none 0 0⟩
def L3 : List It2 := [x1, x2, x3]
theorem L3_ok : ∀ x ∈ L3, x.ok := fun x hx => by
  simp only [L3, List.mem_cons, List.not_mem_nil, or_false] at hx
  rcases hx with rfl | rfl | rfl <;> exact ⟨_, _, _, rfl⟩
theorem L3_r : ∀ x ∈ L3, 0 ≤ x.a ∧ x.a ≤ 1099511627776 ∧ 0 ≤ x.b ∧ x.b ≤ 1099511627776 := fun x hx => by
  simp only [L3, List.mem_cons, List.not_mem_nil, or_false] at hx
  rcases hx with rfl | rfl | rfl <;> simp [x1, x2, x3]
theorem kn1 : knownL L3 1 = true := by rw [knownL_le (by omega)]; rfl
theorem ln2 : lineP L3 2 = some x3 := rfl
theorem ln3 : lineP L3 3 = none := rfl
theorem kn2 : knownL L3 2 = true := by rw [knownL_some (by omega) ln2, if_pos (by decide)]; exact kn1
theorem kn3 : knownL L3 3 = false := knownL_none (by omega) ln3
theorem pa1 : parentP L3 1 = (0, 0, false) := by unfold parentP; rw [if_pos (.inl (by omega))]
theorem pa2 : parentP L3 2 = (1, 4, true) := by unfold parentP; rw [if_neg (by rw [kn2]; simp), ln2]; rfl
theorem way0 (n : Int) : wayU L3 0 n = [] := by rw [wayU, dif_neg (by omega)]
theorem way1 (n : Int) : wayU L3 1 n = [⟨1, min 0 n, n⟩] := by rw [wayU, dif_pos (by omega), pa1]; simp only [way0]
theorem way2 : wayU L3 2 4 = [⟨2, 4, 4⟩, ⟨1, 0, 4⟩] := by rw [wayU, dif_pos (by omega), pa2]; simp only [way1]; rfl
theorem ch1 : Chn.chainOf L3 1 = some [x1] := by
  unfold Chn.chainOf
  rw [if_pos (by rfl), show Chn.atX L3 1 = x1 from rfl, Chn.chainUp_full (by rfl)]
theorem ids1 : Chn.chainIds L3 1 = [1] := by unfold Chn.chainIds; rw [ch1]; rfl
theorem bk1 (n : Int) : Chn.backupsB L3 1 n x1 = decide (2 ≤ n) := by
  unfold Chn.backupsB; rw [show x1.id = 1 from rfl, ch1, Bool.eq_iff_iff]; simp [Chn.backB, x1]; exact decide_eq_true_iff
theorem bk2 (t n : Int) : Chn.backupsB L3 t n x2 = false := by unfold Chn.backupsB; simp [Chn.backB, x2]
theorem bk3 (t n : Int) : Chn.backupsB L3 t n x3 = false := by unfold Chn.backupsB; simp [Chn.backB, x3]
theorem bk21 (n : Int) : Chn.backupsB L3 2 n x1 = false := by unfold Chn.backupsB; simp [x1]
theorem be1 (n : Int) (l : Int) (hl : l ≤ 1) (h : 2 ≤ n) : Chn.bestOf L3 1 l n = (x1, true) := by
  unfold Chn.bestOf
  rw [show L3.filter (Chn.backupsB L3 1 n) = [x1] by rw [show L3 = [x1, x2, x3] from rfl]; simp only [List.filter_cons, List.filter_nil]; rw [show [x1, x2, x3] = L3 from rfl, bk1, bk2, bk3, decide_eq_true h]; rfl]
  simp [Chn.bestStep, x1, hl]
theorem be1n (n : Int) (l : Int) (h : ¬ 2 ≤ n) : (Chn.bestOf L3 1 l n).2 = false := by
  unfold Chn.bestOf
  rw [show L3.filter (Chn.backupsB L3 1 n) = [] by rw [show L3 = [x1, x2, x3] from rfl]; simp only [List.filter_cons, List.filter_nil]; rw [show [x1, x2, x3] = L3 from rfl, bk1, bk2, bk3, decide_eq_false h]; rfl]
  rfl
theorem be2 : (Chn.bestOf L3 2 4 4).2 = false := by
  unfold Chn.bestOf
  rw [show L3.filter (Chn.backupsB L3 2 4) = [] by rw [show L3 = [x1, x2, x3] from rfl]; simp only [List.filter_cons, List.filter_nil]; rw [show [x1, x2, x3] = L3 from rfl, bk21, bk2, bk3]; rfl]
  rfl
theorem nx1 : Re.nextSeg L3 1 1 = some x2 := rfl
theorem nx5 : Re.nextSeg L3 1 5 = none := rfl
theorem co1 (n : Int) (h : 1 < n) (h2 : n ≤ 5) : Re.cover L3 1 1 n = some [2] := by
  rw [Re.cover_some h nx1, show x2.b = 5 from rfl, Re.cover_done (by omega)]; rfl
theorem co1n (n : Int) (h : 5 < n) : Re.cover L3 1 1 n = none := by
  rw [Re.cover_some (by omega) nx1, show x2.b = 5 from rfl, Re.cover_none h nx5]; rfl
theorem co2 : Re.cover L3 2 4 4 = some [] := Re.cover_done (by omega)
theorem fi1 (n : Int) (h : 2 ≤ n) (h2 : n ≤ 5) : findP L3 1 n = some (x1, [2], [n]) := by
  unfold findP
  rw [if_neg (by rw [kn1]; simp; omega), way1, findI, dif_pos (by simp)]
  simp only [List.getElem_cons_zero]
  rw [be1 n _ (by omega) h, if_pos rfl]
  have hp : planAt L3 [⟨1, min 0 n, n⟩] 0 ⟨1, min 0 n, n⟩ x1 = ([2], [n], true) := by
    unfold planAt covStep
    simp only [List.take_zero, List.reverse_nil, List.foldl_nil, if_true]
    rw [show x1.a = 1 from rfl, co1 n (by omega) h2]; rfl
  rw [hp]; rfl
theorem fi1n (n : Int) (h : 5 < n) : findP L3 1 n = none := by
  unfold findP
  rw [if_neg (by rw [kn1]; simp; omega), way1, findI, dif_pos (by simp)]
  simp only [List.getElem_cons_zero]
  rw [be1 n _ (by omega) (by omega), if_pos rfl]
  have hp : (planAt L3 [⟨1, min 0 n, n⟩] 0 ⟨1, min 0 n, n⟩ x1).2.2 = false := by
    unfold planAt covStep
    simp only [List.take_zero, List.reverse_nil, List.foldl_nil, if_true]
    rw [show x1.a = 1 from rfl, co1n n h]; rfl
  rw [hp]; rfl
theorem fi1z (n : Int) (h : n < 2) : findP L3 1 n = none := by
  unfold findP
  by_cases h0 : n < 0
  · rw [if_pos (.inl h0)]
  · rw [if_neg (by rw [kn1]; simp; omega), way1, findI, dif_pos (by simp)]
    simp only [List.getElem_cons_zero]
    rw [be1n n _ (by omega)]
    simp only [Bool.false_eq_true, if_false]
    rw [findI, dif_neg (by simp)]
theorem fi2 : findP L3 2 4 = some (x1, [2], [4]) := by
  unfold findP
  rw [if_neg (by rw [kn2]; simp), way2, findI, dif_pos (by simp)]
  simp only [List.getElem_cons_zero]
  rw [be2]
  simp only [Bool.false_eq_true, if_false]
  rw [findI, dif_pos (by simp)]
  simp only [List.getElem_cons_succ, List.getElem_cons_zero]
  rw [be1 4 0 (by omega) (by omega), if_pos rfl]
  have hp : planAt L3 [⟨2, 4, 4⟩, ⟨1, 0, 4⟩] 1 ⟨1, 0, 4⟩ x1 = ([2], [4], true) := by
    unfold planAt
    simp only [List.take_succ_cons, List.take_zero, List.reverse_cons, List.reverse_nil, List.nil_append, List.foldl_cons, List.foldl_nil]
    unfold covStep
    simp only [if_true]
    rw [show x1.a = 1 from rfl, co1 4 (by omega) (by omega), co2]; rfl
  rw [hp]; rfl
theorem fi3 : findP L3 3 3 = none := by unfold findP; rw [if_pos (.inr kn3)]
end Law22
end Go.Proofs.Ytinofjenoapeaaa
