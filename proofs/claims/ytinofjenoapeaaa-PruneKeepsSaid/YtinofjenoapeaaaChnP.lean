/- Chains of backups and the best of them, as plain functions. No condition. -/
import Derived.Test.YtinofjenoapeaaaIt2
namespace Go.Proofs.Ytinofjenoapeaaa
open Go.RowKit Go.Shelf
set_option linter.unusedSimpArgs false
set_option linter.unusedVariables false
namespace Chn
def backB (x : It2) : Bool := (decide (x.kind = 2) || decide (x.kind = 3)) && decide (x.a ≤ x.b)
def byId (L : List It2) (id : Int) : Option It2 := L.find? fun x => decide (x.id = id)
def atX (L : List It2) (id : Int) : It2 := (byId L id).getD zIt2
def atOk (L : List It2) (id : Int) : Bool := (byId L id).isSome && backB (atX L id)
/-- How many items have an Id under n. -/
def under (L : List It2) (n : Int) : Nat := (L.filter fun x => decide (x.id < n)).length
theorem under_lt {L : List It2} {n m : Int} {x : It2} (hx : x ∈ L) (h1 : x.id < n) (h2 : m = x.id) : under L m < under L n := by
  subst h2
  unfold under
  induction L with
  | nil => cases hx
  | cons y L ih =>
    have hle : (L.filter fun z => decide (z.id < x.id)).length ≤ (L.filter fun z => decide (z.id < n)).length := by
      clear ih hx
      induction L with
      | nil => simp
      | cons z L ih =>
        simp only [List.filter_cons]
        by_cases hz : z.id < x.id
        · rw [if_pos (by simpa using hz), if_pos (by simp; omega)]; simp only [List.length_cons]; omega
        · rw [if_neg (by simpa using hz)]
          split
          · simp only [List.length_cons]; omega
          · exact ih
    rcases List.mem_cons.1 hx with rfl | hx
    · simp only [List.filter_cons]
      rw [if_neg (by simp), if_pos (by simpa using h1)]
      simp only [List.length_cons]; omega
    · have := ih hx
      simp only [List.filter_cons]
      by_cases hy : y.id < x.id
      · rw [if_pos (by simpa using hy), if_pos (by simp; omega)]; simp only [List.length_cons]; omega
      · rw [if_neg (by simpa using hy)]
        split
        · simp only [List.length_cons]; omega
        · exact this
theorem under_mem {L : List It2} {x : It2} (hx : x ∈ L) : under L x.id + 1 ≤ L.length := by
  unfold under
  induction L with
  | nil => cases hx
  | cons y L ih =>
    rcases List.mem_cons.1 hx with rfl | hx
    · simp only [List.filter_cons]
      rw [if_neg (by simp)]
      have := List.length_filter_le (fun z : It2 => decide (z.id < x.id)) L
      simp only [List.length_cons]; omega
    · have := ih hx
      simp only [List.filter_cons]
      split <;> simp only [List.length_cons] <;> omega
theorem byId_spec {L : List It2} {id : Int} {x : It2} (h : byId L id = some x) : x ∈ L ∧ x.id = id :=
  ⟨List.mem_of_find?_eq_some h, by simpa using List.find?_some h⟩

/-- May x be what its child leans on? -/
def upB (x child : It2) : Bool := decide (x.tl = child.tl) && decide (x.id < child.id) && decide (x.b ≤ child.a)
def upOk (L : List It2) (child : It2) : Bool := atOk L child.par && upB (atX L child.par) child
theorem upOk_mem {L : List It2} {child : It2} (h : upOk L child = true) : byId L child.par = some (atX L child.par) ∧ atX L child.par ∈ L ∧ (atX L child.par).id < child.id := by
  simp only [upOk, atOk, upB, Bool.and_eq_true, decide_eq_true_eq] at h
  have h1 : byId L child.par = some (atX L child.par) := by
    unfold atX
    cases hq : byId L child.par with
    | none => rw [hq] at h; simp at h
    | some y => rfl
  exact ⟨h1, (byId_spec h1).1, h.2.1.2⟩
/-- An item's chain, from it down to what it leans on at last. -/
def chainUp (L : List It2) (x : It2) : Option (List It2) :=
  if x.kind = 2 then some [x] else if h : upOk L x = true then (chainUp L (atX L x.par)).map (x :: ·) else none
termination_by under L x.id
decreasing_by exact under_lt (upOk_mem h).2.1 (upOk_mem h).2.2 rfl
def chainOf (L : List It2) (id : Int) : Option (List It2) := if atOk L id then chainUp L (atX L id) else none
theorem chainUp_full {L : List It2} {x : It2} (h : x.kind = 2) : chainUp L x = some [x] := by rw [chainUp, if_pos h]
theorem chainUp_up {L : List It2} {x : It2} (h : x.kind ≠ 2) (hu : upOk L x = true) : chainUp L x = (chainUp L (atX L x.par)).map (x :: ·) := by rw [chainUp, if_neg h, dif_pos hu]
theorem chainUp_none {L : List It2} {x : It2} (h : x.kind ≠ 2) (hu : upOk L x = false) : chainUp L x = none := by rw [chainUp, if_neg h, dif_neg (by rw [hu]; simp)]

/-- The Ids of some items. -/
def ids (xs : List It2) : List Value := (xs.map It2.id).map (Value.int .i64)
theorem ids_snoc (xs : List It2) (x : It2) : ids (xs ++ [x]) = ids xs ++ [.int .i64 x.id] := by simp [ids]
/-- Backups of a timeline whose chains are there. -/
def backupsB (L : List It2) (t most : Int) (x : It2) : Bool := backB x && decide (x.tl = t) && decide (x.b ≤ most) && (chainOf L x.id).isSome
def betterB (x y : It2) : Bool := decide (x.a > y.a) || (decide (x.a = y.a) && decide (x.id > y.id))
def bestStep (least : Int) (s : It2 × Bool) (x : It2) : It2 × Bool := if decide (least ≤ x.a) && (!s.2 || betterB x s.1) then (x, true) else s
def bestOf (L : List It2) (t least most : Int) : It2 × Bool := (L.filter (backupsB L t most)).foldl (bestStep least) (zIt2, false)
theorem best_spec (least : Int) : ∀ (M : List It2) (s : It2 × Bool), (M.foldl (bestStep least) s = s ∧ ((s.2 = false → ∀ x ∈ M, ¬ least ≤ x.a) )) ∨ ((M.foldl (bestStep least) s).2 = true ∧ (M.foldl (bestStep least) s).1 ∈ M ∧ least ≤ (M.foldl (bestStep least) s).1.a)
  | [], s => .inl ⟨rfl, fun _ x hx => by cases hx⟩
  | y :: M, s => by
    rw [List.foldl_cons]
    by_cases h : (decide (least ≤ y.a) && (!s.2 || betterB y s.1)) = true
    · have hs : bestStep least s y = (y, true) := by unfold bestStep; rw [if_pos h]
      have hl : least ≤ y.a := by simp at h; exact h.1
      rw [hs]
      rcases best_spec least M (y, true) with ⟨h1, h2⟩ | ⟨h1, h2, h3⟩
      · refine .inr ?_
        rw [h1]; exact ⟨rfl, by simp, hl⟩
      · exact .inr ⟨h1, by simp [h2], h3⟩
    · have hs : bestStep least s y = s := by unfold bestStep; rw [if_neg h]
      rw [hs]
      rcases best_spec least M s with ⟨h1, h2⟩ | ⟨h1, h2, h3⟩
      · refine .inl ⟨h1, fun hf x hx => ?_⟩
        rcases List.mem_cons.1 hx with rfl | hx
        · intro hl; apply h; simp [hf, hl]
        · exact h2 hf x hx
      · exact .inr ⟨h1, by simp [h2], h3⟩
/-- The best one begins as late as any. -/
theorem best_ge (least : Int) : ∀ (M : List It2) (s : It2 × Bool), (∀ x ∈ M, least ≤ x.a → x.a ≤ (M.foldl (bestStep least) s).1.a) ∧ (s.2 = true → s.1.a ≤ (M.foldl (bestStep least) s).1.a)
  | [], s => ⟨fun x hx => (by cases hx), fun _ => Int.le_refl _⟩
  | y :: M, s => by
    rw [List.foldl_cons]
    obtain ⟨h1, h2⟩ := best_ge least M (bestStep least s y)
    by_cases h : (decide (least ≤ y.a) && (!s.2 || betterB y s.1)) = true
    · have hs : bestStep least s y = (y, true) := by unfold bestStep; rw [if_pos h]
      rw [hs] at h1 h2 ⊢
      have h3 := h2 rfl
      refine ⟨fun x hx hl => ?_, fun ht => ?_⟩
      · rcases List.mem_cons.1 hx with rfl | hx
        · exact h3
        · exact h1 x hx hl
      · have : betterB y s.1 = true := by simp [ht] at h; exact h.2
        simp [betterB] at this
        dsimp only at h3
        omega
    · have hs : bestStep least s y = s := by unfold bestStep; rw [if_neg h]
      rw [hs] at h1 h2 ⊢
      refine ⟨fun x hx hl => ?_, h2⟩
      rcases List.mem_cons.1 hx with rfl | hx
      · have h3 : s.2 = true ∧ betterB x s.1 = false := by
          simp [hl] at h; cases hs2 : s.2 <;> simp_all
        have := h2 h3.1
        have h4 := h3.2
        simp [betterB] at h4
        omega
      · exact h1 x hx hl
end Chn
end Go.Proofs.Ytinofjenoapeaaa
